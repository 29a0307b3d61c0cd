/- A part of the proof. -/
import Derived.Test.YtajjljbmfdboaaaGreatDoorF16
import Derived.Test.YtajjljbmfdboaaaGreatDoorF11
import Derived.Test.YtajjljbmfdboaaaGreatDoorF13
import Derived.Test.YtajjljbmfdboaaaGreatDoorF10
import Derived.Test.YtajjljbmfdboaaaGreatDoorF15
import Derived.Test.YtajjljbmfdboaaaGreatDoorF12
section
open Go Go.Ab
attribute [local irreducible] bA Br pN uC uU Dp nH xW nQ Tx gZ mQ rE sP qX lA B8 uK Y9 dw Tv Sl dj Ty Ry U9 Yi lJ pF vW jB copyV jC wY ft Zd Iw lI P0 Wx en qE uG Be Dk Cl zV Xm uE sS lC gK cS cC
section
namespace Go.Proofs.YtajjljbmfdboaaaGreatDoor
open Go Go.Ab Go.Hm Go.At Go.Mc Go.Ct Go.Nt Go.Is
set_option maxRecDepth 100000
variable {G:Bg} {h:AH} {L L':List HP} {Q:Value→AH→Prop} {Cf:bL} {m N:Nat} {M:cR}
theorem aBh {C:bL} {pv wv ov vv:Value} {ps:List (List Ins)} {ws os vs:List Int} (hn:ps.length≤9223372036854775807) (ho:A.ga G pv wv ov vv ps ws os vs) (hs:Hs G h L)
  (k1:ps.length≤6∧ws.length≤6∧os.length≤20∧vs.length≤80→∀h',Hs G h' L→Q (.bool true) h') (k2:∀h',Hs G h' L→Q (.bool false) h'):Cl Pr K 30 [.agg ⟨Ky C pv wv ov vv⟩] h Q:=by
 obtain⟨⟨vi,hv,hpo,hpi⟩,hwo,hoo,hvo⟩:=ho
 have lp:∀{k:Value→Prop},k (I ps.length)→bA (lA pv) k:=fun hk=>A.sN hpo (by simpa [hv] using hk)
 have lw:∀{k:Value→Prop},k (I ws.length)→bA (lA wv) k:=fun hk=>Nd hwo hk
 have lo:∀{k:Value→Prop},k (I os.length)→bA (lA ov) k:=fun hk=>Nd hoo hk
 have lv:∀{k:Value→Prop},k (I vs.length)→bA (lA vv) k:=fun hk=>Nd hvo hk
 refine cW (dI hs fun p2 h hs=>?_)
 have loop:∀(f i:Nat) (h:AH),i+f=ps.length→Hs G h (aE p2 0 (Ky C pv wv ov vv)::L)→Dd 30 1 [] Q [(pt p2 0 0),(I i)] h:=by
  intro f
  induction f with
  |zero=>
   intro i h hi hs
   refine bW (aA (aC (b:=p2) (o:=0) hs (v:=pv) rfl (lp (aN (aK (by omega) (aA (aC (b:=p2) (o:=0) hs (v:=pv) rfl (lp (xJ (aR (fun g1=>?_) (fun g1=>k2 _ hs.tail)))))))))))
   refine aA (aC (b:=p2) (o:=0) hs (v:=wv) rfl (lw (xJ (aR (fun g2=>?_) (fun g2=>k2 _ hs.tail)))))
   refine aA (aC (b:=p2) (o:=0) hs (v:=ov) rfl (lo (xJ (aR (fun g3=>?_) (fun g3=>k2 _ hs.tail)))))
   refine aA (aC (b:=p2) (o:=0) hs (v:=vv) rfl (lv (xJ ?_)))
   by_cases g4:(vs.length:Int)≤80
   ·rw[decide_eq_true g4];exact k1 ⟨by omega,by omega,by omega,by omega⟩ _ hs.tail
   ·rw[decide_eq_false g4];exact k2 _ hs.tail
  |succ f ih=>
   intro i h hi hs
   obtain⟨p,hp,hd⟩:=qV (l:=ps) (i:=i) (by omega)
   obtain⟨v,hvi,_⟩:=qV (l:=vi) (i:=i) (by omega)
   refine bW (aA (aC (b:=p2) (o:=0) hs (v:=pv) rfl (lp (aN (bP (by omega) (bW (aA (aC (b:=p2) (o:=0) hs (v:=pv) rfl ?_))))))))
   refine xL (Bm (e:=3) (by simp) hpo hs) (x:=[v]) (by simp[hvi]) rfl (A.sN (hpi i v p hvi hp) (iS (aR (fun _=>k2 _ hs.tail) (fun _=>bW (bE (by omega) (ih (i+1) h (by omega) hs))))))
 exact loop ps.length 0 h (by omega) hs
def cR.core (Cf:bL) (M:cR) (x:Int):List Value×Int:=if 0≤x∧x<Cf.aF then((M.aS x.toNat).core,0) else([I 0,I 0,I 0,I 0,I 0,I 0,.bool false],10)
theorem M7 (hs:Hs G h L) [mm:Has (bG G Cf m) L M L'] (hk:∀h',Hs G h' (bG G Cf m M::L')→Q (I M.log.length) h'):Cl Pr K 19 [pt m 0 0] h Q:=by
 obtain⟨y,hl,hs⟩:=cB (mm.of hs)
 exact cW (cN (bV (aB (aA (aC (b:=m) (o:=0) hs rfl (bZ (hk _ (bC (m:=m) (x:=y) M hl hs).to)))))))
end Go.Proofs.YtajjljbmfdboaaaGreatDoor
end
end
section
namespace Go.Mc
open Go Go.Ab Go.Hm Go.At Go.Is Go.Ct Go.Nt
variable {C:bL} {N:Nat} {M:cR}
def rp (i:Nat) (s:aX) (x:Ev):Option aX:=match aX.oS s i with
 |some r=>if r.2=x then some r.1 else none
 |none=>if(aX.cH s i x.value x.code).2.2=0∧(aX.cH s i x.value x.code).2.1=x then some (aX.cH s i x.value x.code).1 else none
theorem Xc {s:aX} {i:Nat} {r:aX×Ev} (h:aX.oS s i=some r):r.2.core=i:=by
 unfold aX.oS at h
 cases hn:aX.next? s with
 |none=>rw[hn] at h;cases h
 |some x=>
  rw[hn] at h
  dsimp only at h
  repeat' split at h
  all_goals first|cases h|skip
  all_goals rfl
theorem jw {s:aX} {i:Nat} {r:aX×Ev} (h:aX.oS s i=some r):rp i s r.2=some r.1:=by
 unfold rp
 grind
theorem N1 {s:aX} {i:Nat} {v c:Int} (h:(aX.cH s i v c).2.2=0):aX.oS s i=none:=by
 unfold aX.cH at h
 unfold aX.oS
 cases hn:aX.next? s with
 |none=>rfl
 |some x=>
  rw[hn] at h
  dsimp only at h ⊢
  unfold I7 at h
  grind
theorem Fo {s:aX} {i:Nat} {v c:Int} (h:(aX.cH s i v c).2.2=0):(aX.cH s i v c).2.1.core=i:=by
 unfold aX.cH at h ⊢
 cases hn:aX.next? s with
 |none=>rw[hn] at h;cases h
 |some x=>
  rw[hn] at h
  dsimp only at h ⊢
  repeat' split at h
  all_goals first|cases h|skip
  all_goals simp_all [aX.ev]
theorem Mq {s:aX} {i:Nat} {v c:Int} (h:(aX.cH s i v c).2.2=0):rp i s (aX.cH s i v c).2.1=some (aX.cH s i v c).1:=by
 unfold rp
 rw[N1 h]
 dsimp only
 have e:aX.cH s i (aX.cH s i v c).2.1.value (aX.cH s i v c).2.1.code=aX.cH s i v c:=by
  unfold aX.cH at h ⊢
  cases hn:aX.next? s with
  |none=>rfl
  |some x=>
   rw[hn] at h
   dsimp only at h ⊢
   unfold aX.ev
   grind
 grind
def rc (m:Mon) (g:Nat):Option Int:=(m.runs g).map iM.core
structure mf (M:cR):Prop where
 op:∀g c,rc M.dY g=some c→∃x,aX.next? (M.aS c.toNat)=some x∧x.op=8
 one:∀g g' c,rc M.dY g=some c→rc M.dY g'=some c→g=g'
theorem ah (hC:C.Ok) {m:Mon} (hm:gB C m) {c:Int}:m.calls c=true↔∃g,rc m g=some c:=by
 unfold Mon.calls Mon.running rc
 rw[List.any_eq_true]
 constructor
 ·rintro ⟨g,hg,h⟩
  unfold Mon.kH at h
  grind
 ·rintro ⟨g,h⟩
  cases hr:m.runs g with
  |none=>rw[hr] at h;cases h
  |some r=>
   rw[hr] at h
   have:=hm.aCt hC g r hr
   refine⟨g,List.mem_filter.2 ⟨List.mem_range.2 this,by rw[hr];rfl⟩,?_⟩
   unfold Mon.kH
   grind
inductive Out (C:bL) (d:Do) (M M':cR):Prop where
 |same (h1:M'.aS=M.aS) (h2:M'.log=M.log) (h3:∀g,rc M'.dY g=rc M.dY g)
 |ev (i:Nat) (s:aX) (v:Ev) (hi:(i:Int)<C.aF) (hd:d.iH=0∧d.a=i) (hw:M.dY.calls i=false) (h1:M'.aS=bT M.aS i s) (h2:M'.log=M.log++[v]) (hc:v.core=i) (hr:rp i (M.aS i) v=some s) (h3:∀g,rc M'.dY g=rc M.dY g)
 |ask (i g:Nat) (hi:(i:Int)<C.aF) (hd:d.iH=0∧d.a=i) (hw:M.dY.calls i=false) (h1:M'.aS=M.aS) (h2:M'.log=M.log) (hx:∃x,aX.next? (M.aS i)=some x∧x.op=8) (h3:∀g',rc M'.dY g'=if g'=g then some (i:Int) else rc M.dY g') (h0:rc M.dY g=none)
 |fin (i g:Nat) (s:aX) (v:Ev) (hi:(i:Int)<C.aF) (hd:d.iH=3) (hg:rc M.dY g=some (i:Int)) (h1:M'.aS=bT M.aS i s) (h2:M'.log=M.log++[v]) (hc:v.core=i) (ho:v.op=8∧v.code=0) (ha:s.at'=(M.aS i).at'+1) (hr:rp i (M.aS i) v=some s) (h3:∀g',rc M'.dY g'=if g'=g then none else rc M.dY g')
theorem uS {d:Do} {i:Nat} {v c:Int} (hi:(i:Int)<C.aF) (hd:d.iH=0∧d.a=i) (hw:M.dY.calls i=false):Out C d M (M.cH i v c).1:=by
 unfold cR.cH
 dsimp only
 split
 ·exact .same rfl rfl fun _=>rfl
 ·rename_i h
  have h:(aX.cH (M.aS i) i v c).2.2=0:=Decidable.not_not.1 h
  exact .ev i _ _ hi hd hw rfl rfl (Fo h) (Mq h) fun _=>rfl
theorem aBa {s:aX} {i:Nat} {a:Mc.Ask} (h:aX.Vd s i=some a):a.core=i∧∃x,aX.next? s=some x∧x.op=8:=by
 unfold aX.Vd at h
 grind
theorem so {d:Do} {i:Nat} {a:Mc.Ask} (hI:fC C N M) (hi:(i:Int)<C.aF) (hd:d.iH=0∧d.a=i) (hw:M.dY.calls i=false) (ha:aX.Vd (M.aS i) i=some a):Out C d M (M.call C i a).1:=by
 obtain⟨h1,h2⟩:=aBa ha
 unfold cR.call
 dsimp only
 split
 ·exact uS hi hd hw
 ·rename_i he
  split
  ·exact .same rfl rfl fun _=>rfl
  ·have he:(M.dY.call C.aF a).2.2=0:=Decidable.not_not.1 he
   have hn0:rc M.dY a.cE.toNat=none:=by
    unfold Mon.call at he
    split at he
    ·cases he
    split at he
    ·cases he
    rename_i n2
    split at he
    ·cases he
    rename_i n3
    have h0:0≤a.cE:=(Decidable.not_not.1 n2).1
    have n3:M.dY.phase a.cE=0:=Decidable.not_not.1 n3
    unfold Mon.phase Mon.run at n3
    rw[if_pos h0] at n3
    unfold rc
    cases hr:M.dY.runs a.cE.toNat with
    |none=>rfl
    |some r=>rw[hr] at n3;have:=(hI.dY.run _ r hr).2.2.1;grind
   refine .ask i a.cE.toNat hi hd hw rfl rfl h2 (fun g'=>?_) hn0
   show rc (M.dY.call C.aF a).1 g'=_
   unfold Mon.call at he ⊢
   repeat' split at he
   all_goals first|(exfalso;revert he;simp;done)|skip
   rename_i n1 n2 n3 n4
   rw[if_neg n1,if_neg n2,if_neg n3,if_neg n4]
   dsimp only at he ⊢
   split at he
   ·grind
   ·rename_i n5
    rw[if_neg n5]
    unfold rc Mon.dN bT
    dsimp only
    split
    ·show some a.core=_;rw[h1]
    ·rfl
theorem U0 {d:Do} {i:Nat} {a:Acc} (hi:(i:Int)<C.aF) (hd:d.iH=0∧d.a=i) (hw:M.dY.calls i=false):Out C d M (M.access C i a).1:=by
 have same:∀{r:cR},r.aS=M.aS→r.log=M.log→r.dY=M.dY→Out C d M r:=fun a b c=> .same a b fun g=>by rw[c]
 unfold cR.access
 split
 ·exact uS hi hd hw
 ·dsimp only
  split
  ·grind
  ·split
   ·unfold cR.walk
    grind
   ·split
    ·exact uS hi hd hw
    ·split
     ·unfold cR.want
      grind
     ·unfold cR.Pu
      dsimp only
      rcases uS (C:=C) (M:=M.sY i (if a.write=true then mA C (if a.read=true then sQ C (M.dC i) (a.word/2) (a.word % 2) (M.known i (a.word/2/2)) else M.dC i) (a.word/2) (a.word % 2) (M.known i (a.word/2/2)) a.value else if a.read=true then sQ C (M.dC i) (a.word/2) (a.word % 2) (M.known i (a.word/2/2)) else M.dC i)) (d:=d) (v:=if a.read=true then Oy C (M.dC i) (a.word/2) (a.word % 2) else 0) (c:=0) hi hd hw with⟨a,b,c⟩|⟨i,s,v,a,b,c,e,f,g,k,l⟩|⟨i,g,a,b,c,e,f,k,l,z⟩|⟨i,g,s,v,a,b,c,e,f,k,l,n,o,p⟩
      ·exact .same a b c
      ·exact .ev i s v a b c e f g k l
      ·exact .ask i g a b c e f k l z
      grind
theorem Hw {m:Mon} {g c:Int}:∀k,rc (m.dropped C.aF g c).1 k=rc m k:=by
 intro k
 unfold Mon.dropped
 split
 ·rfl
 ·split
  ·rfl
  ·rename_i r hr
   split
   ·rfl
   ·split
    ·rfl
    ·unfold Mon.run at hr
     split at hr
     ·unfold rc Mon.dN bT
      dsimp only
      split
      ·rename_i e;subst e;rw[hr];rfl
      ·rfl
     ·cases hr
theorem Dw {n:aJ}:(M.gA C n).1.aS=M.aS∧(M.gA C n).1.log=M.log∧∀g,rc (M.gA C n).1.dY g=rc M.dY g:=by
 unfold cR.gA
 repeat' split
 all_goals first
  |exact⟨rfl,rfl,fun _=>rfl⟩
  |skip
 dsimp only
 split
 ·exact⟨rfl,rfl,fun g=>Hw g⟩
 ·exact⟨rfl,rfl,fun g=>Hw g⟩
theorem wb {m:Mon} {g:Int} {u:Mc.iM} (h:(m.over g).2.1=some u):rc m g.toNat=some u.core∧∀k,rc (m.over g).1 k=if k=g.toNat then none else rc m k:=by
 unfold Mon.over at h ⊢
 split at h
 ·cases h
 ·rename_i n1
  rw[if_neg n1]
  cases hr:m.run g with
  |none=>rw[hr] at h;cases h
  |some r=>
   rw[hr] at h
   dsimp only at h ⊢
   split at h
   ·cases h
   ·rename_i n2
    rw[if_neg n2]
    cases h
    unfold Mon.run at hr
    split at hr
    ·refine⟨by unfold rc;rw[hr];rfl,fun k=>?_⟩
     unfold rc Mon.dN bT
     dsimp only
     split
     ·rfl
     ·rfl
    ·cases hr
theorem On (_:C.Ok) (hI:fC C N M) (hW:mf M) {d:Do}:Out C d M (M.uW C d).1:=by
 have same:∀{r:cR},r.aS=M.aS→r.log=M.log→(∀g,rc r.dY g=rc M.dY g)→Out C d M r:=fun a b c=> .same a b c
 unfold cR.uW
 split
 ·rename_i hd
  unfold cR.step
  split
  ·grind
  ·rename_i ha
   have ha:0≤d.a∧d.a<C.aF:=Decidable.not_not.1 ha
   have hi:((d.a.toNat:Nat):Int)<C.aF:=by omega
   have hdi:d.iH=0∧d.a=(d.a.toNat:Nat):=⟨hd,by omega⟩
   dsimp only
   split
   ·grind
   ·split
    ·grind
    ·rename_i hw
     have hw:M.dY.calls ((d.a.toNat:Nat):Int)=false:=by
      rw[←hdi.2]
      unfold cR.waits at hw
      simpa using hw
     split
     ·rename_i r hr
      exact .ev _ _ _ hi hdi hw rfl rfl (Xc hr) (jw hr) fun _=>rfl
     ·split
      ·rename_i a ha
       exact so hI hi hdi hw ha
      ·split
       ·exact U0 hi hdi hw
       grind
 ·split
  ·unfold cR.uP
   dsimp only
   repeat' split
   all_goals first
    |exact same rfl rfl fun _=>rfl
    |exact same Dw.1 Dw.2.1 Dw.2.2
  ·split
   ·unfold cR.begin
    grind
   ·split
    ·rename_i hd
     unfold cR.finish
     split
     ·grind
     ·split
      ·grind
      ·dsimp only
       split
       ·grind
       ·rename_i u hu
        obtain⟨h1,h2⟩:=wb hu
        have hc:=(Sh (g:=d.a) hI.dY).2 u hu
        obtain⟨i,hi⟩:=Int.eq_ofNat_of_zero_le hc.1
        obtain⟨x,hx,h8⟩:=hW.op _ _ h1
        have ei:u.core.toNat=i:=by omega
        rw[ei] at hx ⊢
        have key:∀P:cR,P.aS=M.aS→P.log=M.log→(∀g,rc P.dY g=if g=d.a.toNat then none else rc M.dY g)→Out C d M (P.cH i 0 0).1:=by
         intro P p1 p2 p3
         have er:aX.cH (P.aS i) i 0 0=(((M.aS i).dN x.b 0).nT ((M.aS i).at'+1),aX.ev (M.aS i) i x ((M.aS i).cZ x.b.toNat) ((M.aS i).cZ x.c.toNat) 0,0):=by
          rw[p1]
          unfold aX.cH
          grind
         have e0:(aX.cH (M.aS i) i 0 0).2.2=0:=by rw[←p1,er]
         unfold cR.cH
         dsimp only
         rw[if_neg (by rw[er];simp)]
         refine .fin i d.a.toNat (aX.cH (P.aS i) i 0 0).1 (aX.cH (P.aS i) i 0 0).2.1 (by omega) hd (by rw[h1,hi]) (by grind) (by grind) ?_ ?_ ?_ ?_ p3
         ·rw[p1];exact Fo e0
         ·rw[er];exact⟨h8,rfl⟩
         ·rw[er];rfl
         ·rw[p1];exact Mq e0
        grind
    grind
end Go.Mc
end
section
namespace Go.Mc
open Go Go.Ab Go.Hm Go.At Go.Is Go.Ct Go.Nt
variable {C:bL} {N:Nat} {M M':cR} {d:Do}
theorem Xd {m:Mon} (hm:gB C m) {g:Nat} {c:Int} (h:rc m g=some c):0≤c∧c<C.aF:=by
 unfold rc at h
 cases hr:m.runs g with
 |none=>rw[hr] at h;cases h
 |some r=>
  rw[hr] at h
  cases h
  exact(hm.run g r hr).2.2.2.1
theorem mf.out (hC:C.Ok) (hI:fC C N M) (hW:mf M) (ho:Out C d M M'):mf M':=by
 have hcl:∀{i:Nat},M.dY.calls i=false→∀g c,rc M.dY g=some c→c.toNat≠i:=by
  intro i hf g c hg e
  have h1:=Xd hI.dY hg
  have:c=i:=by omega
  subst this
  have:=(ah hC hI.dY).2 ⟨g,hg⟩
  grind
 cases ho with
 |same h1 h2 h3=>exact⟨fun g c hg=>by rw[h1];exact hW.op g c (by rw[←h3];exact hg),fun g g' c a b=>hW.one g g' c (by rw[←h3];exact a) (by rw[←h3];exact b)⟩
 |ev i s v hi hd hw h1 h2 hc hr h3=>
  refine⟨fun g c hg=>?_,fun g g' c a b=>hW.one g g' c (by rw[←h3];exact a) (by rw[←h3];exact b)⟩
  rw[h3] at hg
  rw[h1]
  unfold bT
  rw[if_neg (hcl hw g c hg)]
  exact hW.op g c hg
 |ask i g hi hd hw h1 h2 hx h3=>
  constructor
  ·intro g' c hg
   rw[h3] at hg
   rw[h1]
   split at hg
   ·cases hg;exact hx
   ·exact hW.op g' c hg
  ·intro g1 g2 c a b
   rw[h3] at a b
   split at a
   ·grind
   ·split at b
    ·grind
    ·exact hW.one g1 g2 c a b
 |fin i g s v hi hd hg h1 h2 hc hv ha hr h3=>
  constructor
  ·intro g' c hg'
   rw[h3] at hg'
   split at hg'
   ·cases hg'
   ·rename_i hne
    rw[h1]
    unfold bT
    have h0:=Xd hI.dY hg'
    rw[if_neg (fun e=>hne (hW.one g' g c hg' (by grind)))]
    exact hW.op g' c hg'
  ·intro g1 g2 c a b
   rw[h3] at a b
   split at a
   ·cases a
   ·split at b
    ·cases b
    ·exact hW.one g1 g2 c a b
def ig (i:Nat) (s:aX):List Ev→Option aX
 |[]=>some s
 |x::l=>if x.core=i then(match rp i s x with|some t=>ig i t l|none=>none) else ig i s l
theorem Pj {i:Nat}:∀{l:List Ev} {s t:aX} {x:Ev},ig i s l=some t→ig i s (l++[x])=if x.core=i then rp i t x else some t
 |[],s,t,x,h=>by
  cases h
  show ig i s [x]=_
  unfold ig
  split
  ·cases rp i s x<;>rfl
  ·rfl
 |y::l,s,t,x,h=>by
  rw[List.cons_append]
  unfold ig at h ⊢
  split
  ·rename_i e
   rw[if_pos e] at h
   cases hr:rp i s y with
   |none=>rw[hr] at h;cases h
   |some u=>rw[hr] at h;exact Pj h
  ·rename_i e
   rw[if_neg e] at h
   exact Pj h
def RPs (C:bL) (S:Nat→aX) (M:cR):Prop:=∀i:Nat,(i:Int)<C.aF→ig i (S i) M.log=some (M.aS i)
theorem RPs.out {S:Nat→aX} (h:RPs C S M) (ho:Out C d M M'):RPs C S M':=by
 have one:∀{i:Nat} {s:aX} {v:Ev},M'.aS=bT M.aS i s→M'.log=M.log++[v]→v.core=i→rp i (M.aS i) v=some s→RPs C S M':=by
  intro i s v h1 h2 hc hr j hj
  rw[h1,h2,Pj (h j hj)]
  unfold bT
  by_cases e:j=i
  ·subst e
   rw[if_pos hc,if_pos rfl]
   exact hr
  ·grind
 cases ho with
 |same h1 h2 h3=>intro i hi;rw[h1,h2];exact h i hi
 |ev i s v hi hd hw h1 h2 hc hr h3=>exact one h1 h2 hc hr
 |ask i g hi hd hw h1 h2 hx h3=>intro i hi;rw[h1,h2];exact h i hi
 |fin i g s v hi hd hg h1 h2 hc hv ha hr h3=>exact one h1 h2 hc hr
structure Jp (C:bL) (S:Nat→aX) (N:Nat) (M:cR):Prop where
 inv:fC C N M
 wait:mf M
 ig:RPs C S M
theorem Jp.uW {S:Nat→aX} (hC:C.Ok) (h:Jp C S N M):Jp C S (N+2) (M.uW C d).1:=by
 have ho:=On (d:=d) hC h.inv h.wait
 exact⟨yj h.inv hC,h.wait.out hC h.inv ho,h.ig.out ho⟩
theorem Jp.len {S:Nat→aX} (h:Jp C S N M):M.log.length≤N:=h.inv.log
theorem Jp.runs {S:Nat→aX} (hC:C.Ok):∀{l:List Do} {N:Nat} {M:cR},Jp C S N M→Jp C S (N+2*l.length) (M.runs C l):=by
 intro l
 induction l with
 |nil=>intro N M h;exact h
 |cons d l ih=>
  intro N M h
  have:=ih (h.uW (d:=d) hC)
  rw[List.length_cons,show N+2*(l.length+1)=N+2+2*l.length by omega]
  exact this
theorem ju:(M.rX C [d] 0).1=(M.uW C d).1:=by
 unfold cR.rX
 split
 ·rfl
 ·rfl
end Go.Mc
end
section
open Go Go.Ab
attribute [local irreducible] bA Br pN uC uU Dp nH xW nQ Tx gZ mQ rE sP qX lA B8 uK Y9 dw Tv Sl dj Ty Ry U9 Yi lJ pF vW jB copyV jC wY ft Zd Iw lI P0 Wx en qE uG Be Dk Cl zV Xm uE sS lC gK cS cC
section
namespace Go.Proofs.YtajjljbmfdboaaaGreatDoor
open Go Go.Ab Go.Hm Go.At Go.Mc Go.Ct Go.Nt Go.Is
theorem Zu {C:bL} {ps:List (List Ins)} {ws os vs:List Int} (h:Cq C ps ws os vs=0):∀i:Nat,(i:Int)<C.aF→(T7 ps ws i).Ok:=by
 obtain⟨hC,e1,e2,e3,e4,e5,e6,e7⟩:=O6 h
 intro i hi
 have hip:i<ps.length:=by omega
 have hm:ps.getD i []∈ps:=by rw[List.getD_eq_getElem?_getD,List.getElem?_eq_getElem hip];exact List.getElem_mem _
 have hc:=A.Dc e5 _ hm
 have hl:=A.Kw hc
 refine⟨show(0:Int)≤0 by decide,show(0:Int)≤32 by decide,rfl,hl,fun x hx=>?_⟩
 unfold jV at hc
 rw[if_neg (by omega)] at hc
 exact T3 _ _ hc x hx
theorem vd {C:bL} {ps:List (List Ins)} {ws os vs:List Int} (h:Cq C ps ws os vs=0):fC C 0 (MC.new ⟨C,ps,ws,os,vs⟩):=by
 obtain⟨hC,e1,e2,e3,e4,e5,e6,e7⟩:=O6 h
 refine⟨⟨?_,?_,fun g r hr=>by cases hr⟩,Zu h,fun i hi=>ln,fun i hi=>⟨?_,?_⟩,fun l hl=>?_,⟨fun c w=>?_,fun c w n hn=>by cases hn⟩,Nat.le_refl 0⟩
 ·show(os.map fun o=>(⟨o,false⟩:kE)).length=_
  rw[List.length_map];exact e3
 ·intro x hx
  obtain⟨o,ho,rfl⟩:=List.mem_map.1 hx
  exact e7 o ho
 ·show((0:Nat):Int)≤C.entries
  have:1≤C.entries:=by unfold bL.Ok at hC;omega
  omega
 ·show(0:Int)≤0∧(0:Int)<C.bB
  have:=hC.2.1.1
  omega
 ·have e:((MC.new ⟨C,ps,ws,os,vs⟩).home l).1=C1:=by
   show(qY C.lines l).1=C1
   unfold qY
   rw[if_pos hl]
  rw[e]
  exact⟨aDv l,Nat.zero_le _⟩
 ·show((0:Nat):Int)≤C.depth
  have:1≤C.depth:=hC.2.2.2.2.1.1
  omega
theorem u6 {C:bL} {ps:List (List Ins)} {ws os vs:List Int} (h:Cq C ps ws os vs=0):Mc.Jp C (T7 ps ws) 0 (MC.new ⟨C,ps,ws,os,vs⟩):=
 ⟨vd h,⟨(fun g c hg=>by cases hg),(fun g g' c hg=>by cases hg)⟩,fun i hi=>rfl⟩
set_option maxRecDepth 100000
variable {G:Bg} {h:AH} {L L':List HP} {Q:Value→AH→Prop} {Cf:bL} {m N:Nat} {M:cR}
def Rz (G:Bg) (v:Value) (l:List Do):Prop:=sA G 4 v (l.map Do.enc).length (fun i=>(l.map Do.enc).getD i [])
theorem vy {v:Value} {l:List Do} (ho:Rz G v l) (hs:Hs G h L):Hs G h (yK G 4 23 v (l.map Do.enc)::L):=Bm (by simp[Do.enc]) ho hs
theorem aBx {v:Value} {l:List Do} {k:Value→Prop} (ho:Rz G v l) (hk:k (I l.length)):bA (lA v) k:=A.sN ho (by rw[List.length_map];exact hk)
theorem Uk {d:Do} {a:Addr} {c:Nat} {k:Value→AH→Prop} (hC:Cf.Ok) (hG:Gb G) (hI:fC Cf N M) (hN:N≤2^28) (hs:Hs G h (dB 4 23 (some a) c (1,d.enc)::bG G Cf m M::L))
  (hk:∀h',Hs G h' (bG G Cf m (M.uW Cf d).1::L)→k (.tuple ⟨[I (M.rX Cf [d] 0).2.1,I (M.rX Cf [d] 0).2.2]⟩) h'):Cl Pr K 15 [pt m 0 0,.slice (some a) 1 c] h k:=by
 have hs:=jy (l:=[d].map Do.enc) (n:=1) (cs:=d.enc) (by simp[Do.enc]) rfl (by simp) hs
 refine aBt (l:=[d]) (v:= .slice (some a) 1 c) hC hG hI (by simp;omega) hs fun h hs=>hk h ?_
 rw[ju] at hs
 exact hs.tail
end Go.Proofs.YtajjljbmfdboaaaGreatDoor
end
end
section
namespace Go.Ab
open Go Go.RowKit Go.ChangeShapes Go.WideShapes Go.ChangeAt
variable {P:Program} {H:Type} {enc:TypeId×Value→H} {w:World} {base:Nat} {spare:Nat→Bool} {held:Bool}
theorem xh {ρ:gQ} {v:Value}:aD ρ top v:=by simp[top,aD]
theorem Xp {ρ:gQ}:∀{l l':List Value},l.length=l'.length→(∀(j:Nat) (u v:Value),l[j]?=some u→l'[j]?=some v→aD ρ u v)→aT ρ l l'
 |[],[],_,_=>aT.nil
 |u::l,v::l',h,k=>aT.cons (k 0 u v rfl rfl) (Xp (by simpa using h) fun j a b ha hb=>k (j+1) a b (by simpa using ha) (by simpa using hb))
 |[],_::_,h,_=>by simp at h
 |_::_,[],h,_=>by simp at h
def aAt (P:Program) (w:World) (ρ:gQ) (r:OB):Prop:=
 (∀o,r.1=some o→∀b s,r.2=some (b,s)→∃o',w.heap[b]?=some o'∧rZ P ρ s o o')∧(∀b s,r.2=some (b,s)→b<w.heap.size)
theorem Uq.at' {r:OB} (h:Uq P w r) (ρ:gQ):aAt P w ρ r:=⟨fun o ho b s hb=>let⟨o',h1,h2⟩:=h.1 o ho b s hb;⟨o',h1,h2 ρ⟩,h.2⟩
theorem Zn {g:Nat} {gl:Nat→Option lG} {rs:List OB} (hg:P.globals.size≤g) (hsz:g≤w.heap.size) (hgl:xi P g gl w) (hr:∀r∈rs,aAt P w (qG g rs) r):Reads P (g+rs.length) (vZ g gl rs) (qG g rs) w where
 pM:=fun i o hi ho b s hb=>by
  have hb0:=hb
  unfold vZ at ho;unfold qG at hb
  split at ho
  ·rename_i h
   rw[if_pos h] at hb
   cases hb
   obtain⟨o',h1,h2⟩:=hgl i o h ho
   exact⟨o',h1,h2 _⟩
  ·rename_i h
   rw[if_neg h] at hb
   rw[List.getElem?_eq_getElem (by omega)] at ho hb
   exact(hr _ (List.getElem_mem (by omega))).1 o ho b s hb
 low:=fun i b s hi hb=>by
  unfold qG at hb
  split at hb
  ·cases hb;omega
  ·rw[List.getElem?_eq_getElem (by omega)] at hb
   exact(hr _ (List.getElem_mem (by omega))).2 b s hb
 none:=fun i hi=>by unfold qG;rw[if_neg (by omega),List.getElem?_eq_none (by omega)];rfl
 oQ:=fun i hi=>by unfold qG;rw[if_pos (by omega)]
def Df (ks:List (Option IntKind)) (w:World) (a:Option Addr) (len cap:Nat):Prop:=
 (a=none∧len=0∧cap=0)∨(∃x,a=some x∧len=0)∨
 ∃x cc e fz,a=some x∧0<len∧x.spot=none∧len≤cap∧w.heap[x.block]?=some (.cells cc e fz)∧x.off+len≤cc.size∧
  ∀i,i<len→∃a' l' c',cc.toList[x.off+i]?=some (.slice a' l' c')∧iK ks w a' l' c'
theorem fe {t e e2:TypeId} {n fuel:Nat} {ks:List (Option IntKind)} {cs:List Value} {x:DataW H×List MemPlace} (ht:P.underlying t=some (.slice e)) (he:P.underlying e=some (.slice e2)) (hf:qC P n e2=some ks) (hc2:P.cellsOf e2=ks.length) (hc:P.cellsOf e=1) (h0:0<ks.length)
  (h:DataW.trod enc P w base spare held fuel t cs=some x):∃a len cap,cs=[.slice a len cap]∧len≤maxLen∧Df ks w a len cap:=by
 rcases DataW.trod_slice ht h with⟨rfl,_⟩|⟨a,len,cap,elems,rest,m,_,rfl,_,hb,hl,hm,hlen,hel,_,_⟩
 ·exact⟨none,0,0,rfl,Nat.zero_le _,.inl ⟨rfl,rfl,rfl⟩⟩
 refine⟨some a,len,cap,rfl,by omega,?_⟩
 rcases Nat.eq_zero_or_pos len with hz|hz
 ·exact .inr (.inl ⟨a,rfl,hz⟩)
 refine .inr (.inr ?_)
 have each:∀i,i<len→∃a' l' c',w.cell? (a.add i)=some (.slice a' l' c')∧iK ks w a' l' c':=by
  intro i hi
  have h1:=hel i hi
  rw[List.getElem?_eq_getElem (by omega),hc,Option.bind_eq_some_iff] at h1
  obtain⟨c,hcs,hy⟩:=h1
  obtain⟨a',l',c',hce,hr⟩:=Dq he hf hc2 h0 hy
  subst hce
  refine⟨a',l',c',?_,hr⟩
  unfold World.cells? at hcs
  split at hcs
  ·have:=mapM_some_get hcs 0 0 (by simp)
   rw[Nat.mul_one] at this
   have e0:(a.add i).add 0=a.add i:=rfl
   rw[e0] at this
   simpa using this
  ·cases hcs
 obtain⟨a0,l0,c0,h00,hr0⟩:=each 0 hz
 obtain⟨cc,e',fz,hb,hs⟩:∃cc e fz,w.heap[a.block]?=some (.cells cc e fz)∧a.spot=none:=by
  have hx0:a.add 0=a:=rfl
  rw[hx0] at h00
  unfold World.cell? at h00
  split at h00
  ·rename_i c e fz hb
   split at h00
   ·cases h00
   ·rename_i hs
    exact⟨c,e,fz,hb,by simpa using hs⟩
  ·cases h00
 have hcell:∀o,w.cell? ⟨a.block,o,none⟩=cc[o]?:=by
  intro o
  unfold World.cell?
  rw[hb]
  simp
 have hat:∀i,i<len→∃a' l' c',cc.toList[a.off+i]?=some (.slice a' l' c')∧iK ks w a' l' c':=by
  intro i hi
  obtain⟨a',l',c',h1,h2⟩:=each i hi
  rw[Wc hs,hcell] at h1
  exact⟨a',l',c',by rw[Array.getElem?_toList];exact h1,h2⟩
 refine⟨a,cc,e',fz,rfl,hz,hs,hl,hb,?_,hat⟩
 obtain⟨a',l',c',h1,_⟩:=hat (len - 1) (by omega)
 have:=(List.getElem?_eq_some_iff.1 h1).1
 simp at this
 omega
theorem Jd {W:World} {t:TypeId} {fs:Array Field} {i:Nat} {f:Field} {l:List Value} {d:DataW H} {p:List MemPlace} {n:Nat} {ks:List (Option IntKind)} (ht:P.underlying t=some (.struct fs)) (hf:fs[i]?=some f) (he:qC P n f.type=some ks)
  (h:DataW.Trod enc P W 0 (fun _=>true) true t (.agg ⟨l⟩) d p):Flat ks ((l.drop f.offset).take (P.cellsOf f.type)):=by
 obtain⟨fuel,hfu⟩:=h
 obtain⟨xs,m,_,_,hl,hx,hall⟩:=DataW.trod_struct ht hfu
 have hi:=hall i f hf
 have hi2:i<xs.length:=by rw[hx];exact(Array.getElem?_eq_some_iff.1 hf).1
 rw[List.getElem?_eq_getElem hi2] at hi
 have:=Mi n he hi
 simpa [Value.cells] using this
theorem Gz {W:World} {t e e2:TypeId} {fs:Array Field} {i:Nat} {f:Field} {l:List Value} {d:DataW H} {p:List MemPlace} {n:Nat} {ks:List (Option IntKind)} (ht:P.underlying t=some (.struct fs)) (hf:fs[i]?=some f)
  (hu:P.underlying f.type=some (.slice e)) (hu2:P.underlying e=some (.slice e2)) (h1:P.cellsOf f.type=1) (h2:P.cellsOf e=1) (he:qC P n e2=some ks) (hc:P.cellsOf e2=ks.length) (h0:0<ks.length)
  (h:DataW.Trod enc P W 0 (fun _=>true) true t (.agg ⟨l⟩) d p):∃a len cap,l[f.offset]?=some (.slice a len cap)∧len≤maxLen∧Df ks W a len cap:=by
 obtain⟨fuel,hfu⟩:=h
 obtain⟨xs,m,_,_,hl,hx,hall⟩:=DataW.trod_struct ht hfu
 have hi:=hall i f hf
 have hi2:i<xs.length:=by rw[hx];exact(Array.getElem?_eq_some_iff.1 hf).1
 rw[List.getElem?_eq_getElem hi2] at hi
 obtain⟨a,len,cap,hcs,hm,hr⟩:=fe hu hu2 he hc h2 h0 hi
 refine⟨a,len,cap,?_,hm,hr⟩
 rw[h1] at hcs
 have e1:(Value.cells (.agg ⟨l⟩)).toList=l:=by simp[Value.cells]
 have:=congrArg (fun z=>z[0]?) hcs
 simpa [Value.cells] using this
structure aCq (P:Program) (w:World) (ks:List (Option IntKind)) (k0:Nat) (a:Option Addr) (len cap:Nat) (r:OB) (rs:List OB) (t:Nat→Value) (vs:List Value) (ns:List Nat) (at':Nat→Nat→List Value):Prop where
 ok:∀x∈rs,Uq P w x
 out:∀ρ:gQ,(∀i x,rs[i]?=some x→ρ (k0+i)=x.2)→aAt P w ρ r
 rel:∀ρ k,ρ k=r.2→aD ρ (t k) (.slice a len cap)
 lvs:vs.length=len
 jE:ns.length=len
 flat:∀i n,ns[i]?=some n→∀j,j<n→Flat ks (at' i j)
 old:∀(G:Bg) k,k<G.base→G.old k=r.1→(∀i x,rs[i]?=some x→k0+i<G.base∧G.old (k0+i)=x.1)→
  sA G 1 (t k) len (fun i=>[vs.getD i undef])∧qb G (t k) len∧∀i v n,vs[i]?=some v→ns[i]?=some n→sA G ks.length v n (at' i)∧qb G v n
theorem la (P:Program) {ks:List (Option IntKind)} {a:Option Addr} {len cap:Nat} (k0:Nat) (h:Df ks w a len cap):∃r rs t vs ns at',aCq P w ks k0 a len cap r rs t vs ns at':=by
 rcases h with⟨rfl,rfl,rfl⟩|⟨x,rfl,rfl⟩|⟨x,cc,e,fz,rfl,h0,hs,hl,hb,hsz,hf⟩
 ·exact⟨(none,none),[],fun _=> .slice none 0 0,[],[],fun _ _=>[],⟨fun x hx=>(by cases hx),fun ρ _=>⟨fun o h=>(by cases h),fun b s h=>(by cases h)⟩,fun ρ k _=>(by simp only[aD]),rfl,rfl,fun i n hn=>(by simp at hn),fun G k _ _ _=>⟨⟨none,0,rfl,fun i hi=>(by omega)⟩,.inl ⟨rfl,rfl⟩,fun i v n hv=>(by simp at hv)⟩⟩⟩
 ·refine⟨(none,none),[],fun _=> .slice (some ⟨0,0,some 0⟩) 0 0,[],[],fun _ _=>[],⟨fun x hx=>(by cases hx),fun ρ _=>⟨fun o h=>(by cases h),fun b s h=>(by cases h)⟩,fun ρ k _=>?_,rfl,rfl,fun i n hn=>(by simp at hn),fun G k _ _ _=>⟨⟨some ⟨0,0,some 0⟩,0,rfl,fun i hi=>(by omega)⟩,.inr (.inl ⟨rfl,rfl⟩),fun i v n hv=>(by simp at hv)⟩⟩⟩
  simp only[aD]
  exact⟨trivial,trivial,x,cap,fun h=>by omega,fun h=>by omega,rfl⟩
 ·
  have hch:∀i,∃(y:OB×(Nat→Value)×(Nat→List Value)×Nat×Value),i<len→cc.toList[x.off+i]?=some y.2.2.2.2∧Uq P w y.1∧(∀ρ k,ρ k=y.1.2→aD ρ (y.2.1 k) y.2.2.2.2)∧(∀j,j<y.2.2.2.1→Flat ks (y.2.2.1 j))∧
    ∀(G:Bg) k,k<G.base→G.old k=y.1.1→sA G ks.length (y.2.1 k) y.2.2.2.1 y.2.2.1∧qb G (y.2.1 k) y.2.2.2.1:=by
   intro i
   by_cases hi:i<len
   ·obtain⟨a',l',c',h1,h2⟩:=hf i hi
    obtain⟨r,t,h3,h4,at',h5,h6⟩:=tI P h2
    exact⟨(r,t,at',l',.slice a' l' c'),fun _=>⟨h1,h3,h4,h5,h6⟩⟩
   ·exact⟨((none,none),fun _=>undef,fun _=>[],0,undef),fun h=>absurd h hi⟩
  obtain⟨Y,hY⟩:∃Y:Nat→OB×(Nat→Value)×(Nat→List Value)×Nat×Value,∀i,i<len→cc.toList[x.off+i]?=some (Y i).2.2.2.2∧Uq P w (Y i).1∧(∀ρ k,ρ k=(Y i).1.2→aD ρ ((Y i).2.1 k) (Y i).2.2.2.2)∧(∀j,j<(Y i).2.2.2.1→Flat ks ((Y i).2.2.1 j))∧
    ∀(G:Bg) k,k<G.base→G.old k=(Y i).1.1→sA G ks.length ((Y i).2.1 k) (Y i).2.2.2.1 (Y i).2.2.1∧qb G ((Y i).2.1 k) (Y i).2.2.2.1:=
   ⟨fun i=>(hch i).choose,fun i hi=>(hch i).choose_spec hi⟩
  have hrs:∀{α:Type} (g:Nat→α) (i:Nat) (z:α),((List.range len).map g)[i]?=some z→i<len∧z=g i:=by
   intro α g i z hz
   have hi:i<len:=by have:=(List.getElem?_eq_some_iff.1 hz).1;simpa using this
   rw[List.getElem?_map,List.getElem?_range hi] at hz
   simp only[Option.map_some,Option.some.injEq] at hz
   exact⟨hi,hz.symm⟩
  refine⟨(some (.cells ((List.range cc.size).map fun j=>if x.off≤j∧j<x.off+len then(Y (j - x.off)).2.1 (k0+(j - x.off)) else top) e fz false),some (x.block,(0,0))),(List.range len).map fun i=>(Y i).1,fun k=> .slice (some ⟨k,x.off,none⟩) len cap,
      (List.range len).map fun i=>(Y i).2.1 (k0+i),(List.range len).map fun i=>(Y i).2.2.2.1,fun i=>(Y i).2.2.1,⟨?_,?_,?_,by simp,by simp,?_,?_⟩⟩
  ·intro y hy
   obtain⟨i,hi,rfl⟩:=List.mem_map.1 hy
   exact(hY i (List.mem_range.1 hi)).2.1
  ·intro ρ hρ
   refine⟨fun o ho b s hr=>?_,fun b s hr=>?_⟩
   ·cases ho;cases hr
    refine⟨_,hb,cc,rfl,?_,by simp,fun h=>by cases h⟩
    rw[List.drop_zero,List.take_of_length_le (by simp)]
    refine Xp (by simp) fun j u v hu hv=>?_
    rw[List.getElem?_map] at hu
    have hj:j<cc.size:=by have:=(List.getElem?_eq_some_iff.1 hv).1;simpa using this
    rw[List.getElem?_range hj] at hu
    simp only[Option.map_some,Option.some.injEq] at hu
    subst hu
    split
    ·rename_i hc
     obtain⟨h1,_,h3,_,_⟩:=hY (j - x.off) (by omega)
     rw[show x.off+(j - x.off)=j by omega,hv] at h1
     simp only[Option.some.injEq] at h1
     rw[h1]
     refine h3 ρ _ (hρ (j - x.off) _ ?_)
     rw[List.getElem?_map,List.getElem?_range (by omega)];rfl
    ·exact xh
   ·cases hr
    exact(Array.getElem?_eq_some_iff.1 hb).1
  ·intro ρ k hr
   simp only[aD]
   exact⟨x.block,(0,0),cap,hr,Nat.le_refl _,by simp,by cases x;simp at hs;subst hs;rfl⟩
  ·intro i n hn j hj
   obtain⟨hi,rfl⟩:=hrs _ i n hn
   exact(hY i hi).2.2.2.1 j hj
  ·intro G k hk hg hall
   refine⟨⟨_,_,rfl,fun i hi=>⟨k,x.off,_,rfl,⟨hk,e,fz,false,hg⟩,?_,by simp;omega⟩⟩,.inr (.inr ⟨k,x.off,cap,_,e,fz,rfl,h0,hl,hk,hg⟩),fun i v n hv hn=>?_⟩
   ·have hsz':x.off+i*1<cc.size:=by omega
    have hli:x.off+i*1<((List.range cc.size).map fun j=>if x.off≤j∧j<x.off+len then(Y (j - x.off)).2.1 (k0+(j - x.off)) else top).length:=by simp;omega
    rw[List.drop_eq_getElem_cons hli,List.take_succ_cons,List.take_zero]
    have e1:((List.range len).map fun i=>(Y i).2.1 (k0+i)).getD i undef=(Y i).2.1 (k0+i):=by
     rw[List.getD_eq_getElem?_getD,List.getElem?_map,List.getElem?_range hi];rfl
    show[_]=[((List.range len).map fun i=>(Y i).2.1 (k0+i)).getD i undef]
    rw[e1]
    simp only[List.getElem_map,List.getElem_range]
    rw[if_pos (by omega),show x.off+i*1 - x.off=i by omega]
   ·obtain⟨hi,rfl⟩:=hrs _ i v hv
    obtain⟨_,rfl⟩:=hrs _ i n hn
    obtain⟨h1,h2⟩:=hall i (Y i).1 (by rw[List.getElem?_map,List.getElem?_range hi];rfl)
    exact(hY i hi).2.2.2.2 G (k0+i) h1 h2
end Go.Ab
end
section
open Go Go.Ab
attribute [local irreducible] bA Br pN uC uU Dp nH xW nQ Tx gZ mQ rE sP qX lA B8 uK Y9 dw Tv Sl dj Ty Ry U9 Yi lJ pF vW jB copyV jC wY ft Zd Iw lI P0 Wx en qE uG Be Dk Cl zV Xm uE sS lC gK cS cC
section
namespace Go.Proofs.YtajjljbmfdboaaaGreatDoor
open Go Go.Ab Go.Hm Go.At Go.Mc Go.Nt
def fE (q:Nat):List Value:=[.func (.func 224) #[] #[pt q 0 0]]
instance:Fx fE 1:=⟨fun _=>rfl,fun _=>rfl⟩
abbrev fns (a:Option Addr) (c:Nat) (l:List Nat):HP:=ls fE 1 130 a c l
def eP (F:fS):Nat→List aJ:=fun k=>F (k/4) (k % 4)
def vQ (F:fS):Nat→Nat
 |0=>0
 |n+1=>vQ F n+(eP F n).length
theorem No {F:fS} (hd:∀c w,(F c w).length≤500):∀n,vQ F n≤500*n
 |0=>Nat.le_refl _
 |n+1=>by
  have h1:=No hd n
  have h2:=hd (n/4) (n % 4)
  show vQ F n+(F (n/4) (n % 4)).length≤_
  omega
theorem sn {l done:List Nat} {y:Nat} (h:done++[y]<+:l):done.length<l.length∧l.getD done.length 0=y:=by
 obtain⟨t,rfl⟩:=h
 refine⟨by simp,?_⟩
 simp[List.getD_eq_getElem?_getD]
set_option maxRecDepth 100000
variable {G:Bg} {h:AH} {L L' M:List HP} {Q:Value→AH→Prop} {C:bL}
abbrev Oz:Nat→Nat→List aJ→HP:=fun _ q l=>sw q l
theorem aDu {a:Option Addr} {c i:Nat} {l:List Nat} {k:Value→Prop} (hs:Hs G h L) [m:Has (fns a c) L l L'] (hi:i<l.length) (hk:k (.func (.func 224) #[] #[pt (l.getD i 0) 0 0])):bA (lJ 1 (.slice a l.length c) (I i)) fun p=>bA (pN h p) k:=by
 have hx:l[i]?=some (l.getD i 0):=by rw[List.getD_eq_getElem?_getD,List.getElem?_eq_getElem hi];rfl
 have hs:Hs G h (dB 1 130 a c (l.length,eL fE l)::L'):=m.of hs
 obtain⟨b,o,rfl,hs'⟩:=hs.fM (by omega)
 refine dK hi ?_
 rw[show pt b (o+i*1) 0=pt b o (i*1) by simp[pt]]
 have e2:(eL fE l)[i*1]?=some (.func (.func 224) #[] #[pt (l.getD i 0) 0 0]):=Ps (enc:=fE) (W:=1) (j:=0) hx rfl
 exact aC (b:=b) (o:=o) (j:=i*1) hs' e2 hk
def Yc (z:Nat) (l:List Nat):HP:=rY fun x:Option Addr×Nat=>sp [aE z 0 [.slice x.1 l.length x.2],fns x.1 x.2 l]
theorem xf {f i:Nat} {F:fS} {t:Value} (hC:C.Ok) (hd:∀c w,(F c w).length≤500) (hi:(i:Int)<C.aF)
  (hk:∀ql a c h',ql.length=4*i+4→Hs G h' (fns a c ql::nV Oz ql (eP F)::mF C f F::L)→Dd 124 6 [] Q [(pt f 0 0),(.slice a ql.length c),t,(I i)] h'):
  ∀(g w:Nat) (ql:List Nat) (a:Option Addr) (c:Nat) (h:AH),w+g=4→ql.length=4*i+w→Hs G h (fns a c ql::nV Oz ql (eP F)::mF C f F::L)→Dd 124 4 [] Q [(pt f 0 0),(.slice a ql.length c),(I i),t,(I i),(I w)] h:=by
 have hc:=hC.1
 intro g
 induction g with
 |zero=>
  intro w ql a c h hw hl hs
  exact bW (aN (aK (by omega) (hk ql a c h (by omega) hs)))
 |succ g ih=>
  intro w ql a c h hw hl hs
  refine bW (aN (bP (by omega) (bW (Se (C:=C) (F:=F) (x:=i) (y:=w) hC hd hi (by omega) hs fun q h hs=>?_))))
  have e1:eP F ql.length=F i w:=by
   unfold eP
   rw[hl,show(4*i+w)/4=i by omega,show(4*i+w) % 4=w by omega]
  have hs:Hs G h (Oz ql.length q (eP F ql.length)::mF C f F::fns a c ql::nV Oz ql (eP F)::L):=by rw[e1];exact hs.to
  refine aH (c:=fE q) rfl (dE (W:=1) (n:=1) (c:=1) hs rfl rfl rfl fun a2 h hs=>?_)
  have hs:=nL (enc:=fE) (W:=1) (e:=130) (x:=q) hs
  refine kB (enc:=fE) (W:=1) (e:=130) (l:=ql) (l2:=[q]) (a:=a) (c:=c) (a2:=some a2) (c2:=1) hs (by simp;omega) fun a' c' h hs=>?_
  have hs:=Gi (R:=Oz) (l:=ql) (q:=q) (s:=eP F) (hs.cA (Oz ql.length q (eP F ql.length)) (nV Oz ql (eP F)))
  exact bE (by omega) (ih (w+1) (ql++[q]) a' c' h (by omega) (by simp;omega) hs.to)
theorem uo {f:Nat} {F:fS} (hC:C.Ok) (hd:∀c w,(F c w).length≤500) (hs:Hs G h L) [m:Has (mF C f) L F L']
  (hk:∀z ql h',ql.length=4*C.aF.toNat→Hs G h' (Yc z ql::nV Oz ql (eP F)::mF C f F::L')→Q (.func (.func 227) #[] #[pt z 0 0]) h'):Cl Pr K 124 [pt f 0 0] h Q:=by
 have hc:=hC.1
 have loop:∀(g i:Nat) (ql:List Nat) (a:Option Addr) (c:Nat) (h:AH),i+g=C.aF.toNat→ql.length=4*i→Hs G h (fns a c ql::nV Oz ql (eP F)::mF C f F::L')→Dd 124 2 [] Q [(pt f 0 0),(.slice a ql.length c),(I C.aF),(I i)] h:=by
  intro g
  induction g with
  |zero=>
   intro i ql a c h hi hl hs
   refine bW (aN (aK (by omega) (cW (dI hs fun z h hs=>hk z ql h (by omega) ?_))))
   exact Hs.uH (A:=fun x:Option Addr×Nat=>sp [aE z 0 [.slice x.1 ql.length x.2],fns x.1 x.2 ql]) (a,c) hs.zB
  |succ g ih=>
   intro i ql a c h hi hl hs
   refine bW (aN (bP (by omega) (bW ?_)))
   refine xf (f:=f) (i:=i) (t:=I C.aF) hC hd (by omega) (fun ql a c h hl hs=>?_) 4 0 ql a c h rfl (by omega) hs
   exact bW (bE (by omega) (ih (i+1) ql a c h (by omega) (by omega) hs))
 obtain⟨pl,hs⟩:=yA (m.of hs)
 refine cW (Pc (eQ (bW (aB (aA (aA (aC (b:=f) (o:=0) hs (v:=I C.aF) rfl ?_)))))))
 have hs:=pV (enc:=fE) (W:=1) (e:=130) (Gp (R:=Oz) (s:=eP F) (kP hs))
 exact loop C.aF.toNat 0 [] none 0 h (by omega) rfl hs
theorem zx {z:Nat} {l:List Nat} (hb:l.length≤1000):gu Pr K G 227 [] [pt z 0 0] (Yc z l) (l.map fE):=by
 intro I' J y L h Q hs hy h1 h2
 obtain⟨⟨a,c⟩,hs⟩:=hs.zE
 have hs:=hs.xA
 have shut:∀{h:AH} {M:List HP},Hs G h (aE z 0 [.slice a l.length c]::fns a c l::M)→Hs G h (Yc z l::M):=fun hs=>Hs.uH (A:=fun x:Option Addr×Nat=>sp [aE z 0 [.slice x.1 l.length x.2],fns x.1 x.2 l]) (a,c) hs.zB
 refine cW (aC (b:=z) (o:=0) hs rfl (bZ ?_))
 have loop:∀(f i:Nat) (h:AH),i+f=l.length→Hs G h (aE z 0 [.slice a l.length c]::fns a c l::I' ((l.drop i).map fE)::L)→Dd 227 1 [] Q [y,(.slice a l.length c),(I l.length),(I i)] h:=by
  intro f
  induction f with
  |zero=>
   intro i h hi hs
   rw[List.drop_of_length_le (by omega)] at hs
   exact bW (aN (aK (by omega) (h1 _ _ (shut hs))))
  |succ f ih=>
   intro i h hi hs
   have hil:i<l.length:=by omega
   have hd:l.drop i=l.getD i 0::l.drop (i+1):=by rw[List.drop_eq_getElem_cons hil,List.getD_eq_getElem?_getD,List.getElem?_eq_getElem hil];rfl
   rw[hd,List.map_cons] at hs
   refine bW (aN (bP (by omega) (bW (aDu (l:=l) (a:=a) (c:=c) hs hil ?_))))
   refine(hy _ _ h _ (hs.front (I' (fE (l.getD i 0)::((l.drop (i+1)).map fE))))).mono fun v h' hv=>?_
   rcases hv with⟨rfl,hs'⟩|⟨rfl,hs'⟩
   ·exact bS (bV (bW (bE (by omega) (ih (i+1) h' (by omega) hs'.to))))
   ·exact bS (eQ (h2 _ _ (shut hs'.to)))
 exact loop l.length 0 h (by omega) (by rw[List.drop_zero];exact hs)
abbrev flX (p:Nat) (e:Nat→Value) (d l:Nat) (ql:List Nat) (F:fS) (done:List Nat):HP:=sp [jY Pr 60 (kD 58) 13 e d l (.ready,none),aE p 0 [I (vQ F done.length)],nV Oz ql (eP F)]
abbrev flY (p n:Nat) (e e2:Nat→Value) (d l l2:Nat) (done:List aJ):HP:=sp [jY Pr 60 (kD 938) 13 e2 d l2 (.ready,none),jY Pr 60 (kD 58) 13 e d l (.busy,none),aE p 0 [I (n+done.length:Nat)]]
theorem af {f:Nat} {F:fS} (hC:C.Ok) (hd:∀c w,(F c w).length≤500) (hs:Hs G h L) [m:Has (mF C f) L F L']
  (hk:∀h',Hs G h' (mF C f F::L')→Q (I (vQ F (4*C.aF.toNat))) h'):Cl Pr K 60 [pt f 0 0] h Q:=by
 have hc:=hC.1
 refine cW (bN (m.of hs) fun p h hs=>aZ (b:=p) hs rfl rfl rfl rfl fun h hs=>uo (C:=C) (F:=F) hC hd hs fun z ql h hql hs=>?_)
 refine jX hs fun d h hs=>?_
 intro e he
 refine mG hs fun l h hs=>rT rfl ?_
 have hs:Hs G h (Yc z ql::flX p e d l ql F []::mk d ()::mF C f F::L'):=by
  have hs:=(hs.cJ (jY Pr 60 (kD 58) 13 e d l (.ready,none)) (aE p 0 [I 0]) (nV Oz ql (eP F))).Ko
  have hs:Hs G h (flX p e d l ql F []::_):=hs
  exact hs.to
 refine(zx (z:=z) (l:=ql) (by omega)).fold (X:=flX p e d l ql F) (Z:=fun _ _=>uI False) hs ?_ ?_ ?_
 ·intro done y h N hp hs
  have hs:=hs.wP
  obtain⟨hdl,hy⟩:=sn hp
  have hs:=gF (R:=Oz) (l:=ql) (s:=eP F) hdl hs
  rw[hy] at hs
  refine rW (rS hs) he (gU hs fun h hs=>ee hs ?_)
  intro e2 he2
  refine mG hs fun l2 h hs=>rT rfl ?_
  have hs:Hs G h (sw y (eP F done.length)::flY p (vQ F done.length) e e2 d l l2 []::Da Oz ql (eP F) done.length::N):=by
   have hs:=(hs.cJ (jY Pr 60 (kD 938) 13 e2 d l2 (.ready,none)) (jY Pr 60 (kD 58) 13 e d l (.busy,none)) (aE p 0 [I (vQ F done.length)])).Ko
   exact hs.to
  have hlen:(eP F done.length).length≤500:=hd _ _
  have htot:=No hd done.length
  refine(aEe (q:=y) (l:=eP F done.length) (by omega)).fold (X:=flY p (vQ F done.length) e e2 d l l2) (Z:=fun _ _=>uI False) hs ?_ ?_ ?_
  ·intro dn x h N hp2 hs
   have hs:=hs.wP
   have hl2:dn.length≤500:=by have:=hp2.length_le;simp at this;omega
   refine rW (rS hs) he2 (gU hs fun h hs=>aC (b:=p) (o:=0) hs rfl (bE (by omega) (aZ (b:=p) hs rfl rfl rfl rfl fun h hs=>iE hs fun h hs=> .inl ⟨rfl,?_⟩)))
   have e3:((vQ F done.length+dn.length:Nat):Int)+1=((vQ F done.length+(dn++[x]).length:Nat):Int):=by simp;omega
   rw[e3] at hs
   exact((hs.cJ (jY Pr 60 (kD 938) 13 e2 d l2 (.ready,none)) (jY Pr 60 (kD 58) 13 e d l (.busy,none)) (aE p 0 [I (vQ F done.length+(dn++[x]).length:Nat)])).Ko).to
  ·intro v h hs
   have hs:=(hs.front (flY p (vQ F done.length) e e2 d l l2 (eP F done.length))).wP
   refine mE hs fun h hs=>mC (iE hs fun h hs=> .inl ⟨rfl,?_⟩)
   have e3:vQ F done.length+(eP F done.length).length=vQ F (done++[y]).length:=by rw[List.length_append];rfl
   rw[e3] at hs
   have e5:sw y (eP F done.length)=Oz done.length (ql.getD done.length 0) (eP F done.length):=by rw[hy]
   rw[e5] at hs
   have hs:=xP (R:=Oz) (l:=ql) (s:=eP F) (i:=done.length) (x:=eP F done.length) hdl (hs.cA (Oz done.length (ql.getD done.length 0) (eP F done.length)) (Da Oz ql (eP F) done.length))
   have e4:(fun j=>if j=done.length then eP F done.length else eP F j)=eP F:=by funext j;split<;>simp_all
   rw[e4] at hs
   exact((hs.cJ (jY Pr 60 (kD 58) 13 e d l (.ready,none)) (aE p 0 [I (vQ F (done++[y]).length)]) (nV Oz ql (eP F))).Ko).to
  ·intro dn x v h hp2 hs
   obtain⟨hf,hs⟩:=(hs.front (uI False)).bq
   exact hf.elim
 ·intro v h hs
  have hs:=(hs.front (flX p e d l ql F ql)).wP
  rw[hql] at hs
  exact mE hs fun h hs=>mC (aC (b:=p) (o:=0) hs rfl (lN hs fun h hs=>jI (hk _ hs.to)))
 ·intro done y v h hp hs
  obtain⟨hf,hs⟩:=(hs.front (uI False)).bq
  exact hf.elim
end Go.Proofs.YtajjljbmfdboaaaGreatDoor
end
section
namespace Go.Proofs.YtajjljbmfdboaaaGreatDoor
open Go Go.Ab Go.Hm Go.At Go.Mc Go.Ct Go.Nt
theorem K8 {F:fS}:∀n,((List.range n).flatMap fun c=>(List.range 4).flatMap fun w=>F c w).length=vQ F (4*n)
 |0=>rfl
 |n+1=>by
  rw[List.range_succ (n:=n),List.flatMap_append,List.length_append,K8 n]
  have e:vQ F (4*(n+1))=vQ F (4*n)+(F n 0).length+(F n 1).length+(F n 2).length+(F n 3).length:=by
   show vQ F (4*n)+(F ((4*n)/4) ((4*n) % 4)).length+(F ((4*n+1)/4) ((4*n+1) % 4)).length+(F ((4*n+2)/4) ((4*n+2) % 4)).length+(F ((4*n+3)/4) ((4*n+3) % 4)).length=_
   rw[show(4*n)/4=n by omega,show(4*n) % 4=0 by omega,show(4*n+1)/4=n by omega,show(4*n+1) % 4=1 by omega,show(4*n+2)/4=n by omega,show(4*n+2) % 4=2 by omega,show(4*n+3)/4=n by omega,show(4*n+3) % 4=3 by omega]
  have e2:(([n]:List Nat).flatMap fun c=>(List.range 4).flatMap fun w=>F c w).length=(F n 0).length+(F n 1).length+(F n 2).length+(F n 3).length:=by
   simp[List.range_succ];omega
  rw[e,e2];omega
theorem ly {n i:Nat} {p:Nat→Bool} (hi:i<n) (h:p i=false):(List.range n).all p=false:=by
 rw[List.all_eq_false]
 exact⟨i,List.mem_range.2 hi,by rw[h];decide⟩
theorem Yv {n:Nat} {p:Nat→Bool} (h:∀i,i<n→p i=true):(List.range n).all p=true:=List.all_eq_true.2 fun i hi=>h i (List.mem_range.1 hi)
set_option maxRecDepth 100000
variable {G:Bg} {h:AH} {L L':List HP} {Q:Value→AH→Prop} {Cf:bL} {m N:Nat} {M:cR}
theorem jo (hC:Cf.Ok) (hG:Gb G) (hL:Wp Cf M.jE) (_:rR Cf M.home (2^30)) (hs:Hs G h L) [mm:Has (bG G Cf m) L M L'] (hk:∀h',Hs G h' (bG G Cf m M::L')→Q (.bool (M.over Cf)) h'):Cl Pr K 21 [pt m 0 0] h Q:=by
 have hc:=hC.1
 have hln:=bL.eI hC
 have h500:=hL.J7 hC
 have hno:=K8 (F:=M.jE) Cf.aF.toNat
 have htot:=No h500 (4*Cf.aF.toNat)
 obtain⟨x,hl,hs⟩:=cB (mm.of hs)
 refine cW (cN (bV (aB (aA (aC (b:=m) (o:=0) hs rfl (af (C:=Cf) (F:=M.jE) hC h500 hs fun h hs=>?_))))))
 have hs:=bC (m:=m) (x:=x) M hl hs
 unfold cR.over cR.notes at hk
 refine iS (aR (fun h1=>?_) (fun h1=>bW ?_))
 ·rw[decide_eq_false (fun e=>by rw[e] at hno;simp at hno;omega),Bool.false_and,Bool.false_and] at hk
  exact hk _ hs
 rw[decide_eq_true (List.eq_nil_of_length_eq_zero (by omega)),Bool.true_and] at hk
 have lines:∀(f l:Nat) (h:AH),(List.range Cf.aF.toNat).all (fun i=>(M.aS i).over&& !(M.dC i).Qa&& !(M.cK i).qD)=true→l+f=Cf.lines→(∀j,j<l→(M.home j).1.waits=[])→Hs G h (bG G Cf m M::L')→Dd 21 6 [] Q [(pt m 0 0),(I Cf.lines),(I l)] h:=by
  intro f
  induction f with
  |zero=>
   intro l h ha hlf hj hs
   rw[ha,Bool.true_and,Yv (fun j hj'=>decide_eq_true (hj j (by omega)))] at hk
   exact bW (aN (aK (by omega) (hk _ hs)))
  |succ f ih=>
   intro l h ha hlf hj hs
   obtain⟨x,hl,hs⟩:=cB hs
   refine bW (aN (bP (by omega) (bW (aB (aA (aC (b:=m) (o:=0) hs rfl (H.oz (C:=Cf) (H:=M.home) (x:=l) hs fun hs=>?_)))))))
   have hs:=bC (m:=m) (x:=x) M hl hs
   have e:Dl Cf M.home l=(M.home l).1.waits.length:=by unfold Dl;rw[if_pos (by unfold bL.has;omega),Int.toNat_natCast]
   rw[e]
   refine iS (aR (fun h2=>?_) (fun h2=>bW (bE (by omega) (ih (l+1) h ha (by omega) (fun j hj'=>?_) hs))))
   ·rw[ha,Bool.true_and,ly (i:=l) (by omega) (decide_eq_false (fun e=>by rw[e] at h2;simp at h2))] at hk
    exact hk _ hs
   ·by_cases e:j=l
    ·subst e;exact List.eq_nil_of_length_eq_zero (by omega)
    ·exact hj j (by omega)
 have aF:∀(f i:Nat) (x:MN) (h:AH),Wk Cf x→i+f=Cf.aF.toNat→(∀j,j<i→((M.aS j).over&& !(M.dC j).Qa&& !(M.cK j).qD)=true)→Hs G h (mV G Cf m x M::L')→Dd 21 2 [] Q [(pt m 0 0),(.slice x.ac x.lc.length x.cc),(I x.lc.length),(I i)] h:=by
  intro f
  induction f with
  |zero=>
   intro i x h hl hif hj hs
   have hlc:=hl.1
   refine bW (aN (aK (by omega) (bW ?_)))
   obtain⟨hl,hs⟩:=iF hs
   refine aB (aA (iN (b:=m) (o:=0) hs (by decide) (l:=Cf.enc) rfl rfl (mZ (C:=Cf) hC hG.lim hs fun h hs=>?_)))
   have hs:=bC (m:=m) (x:=x) M hl hs
   exact lines Cf.lines 0 h (Yv fun j hj'=>hj j (by omega)) (by omega) (fun j hj'=>by omega) hs
  |succ f ih=>
   intro i x h hl hif hj hs
   obtain⟨_,hs⟩:=iF hs
   obtain⟨l1,l2,l3⟩:=hl
   have hic:i<x.lc.length:=by omega
   have hik:i<x.lk.length:=by omega
   have hiq:i<x.lq.length:=by omega
   refine bW (aN (bP (by omega) (bW (Ei hs hic (aB (aA (aC (b:=m) (o:=0) hs rfl (D4 hs hik ?_))))))))
   have hs:=gF (R:=oL G Cf) (l:=x.lk) (s:=M.dC) hik hs
   refine C.j6 (C:=Cf) (core:=i) (c:=x.lk.getD i 0) (s:=M.dC i) hs fun h hs=>aG rfl (aG rfl (aG rfl ?_))
   have hs:=xP (R:=oL G Cf) (l:=x.lk) (s:=M.dC) (i:=i) (x:=M.dC i) hik (hs.cA (C.fO G (x.lk.getD i 0) Cf i (M.dC i)) (Da (oL G Cf) x.lk M.dC i))
   have e4:(fun j=>if j=i then M.dC i else M.dC j)=M.dC:=by funext j;split<;>simp_all
   rw[e4] at hs
   refine aB (aA (aC (b:=m) (o:=0) hs rfl (Ep hs hiq ?_)))
   have hs:=gF (R:=oC Cf) (l:=x.lq) (s:=M.cK) hiq hs
   refine Wg (C:=Cf) (p:=x.lq.getD i 0) (s:=M.cK i) hs fun g a h hs=>aG rfl (aG rfl (aG rfl ?_))
   have hs:=sI (Cf:=Cf) (l:=x.lq) (s:=M.cK) (i:=i) (t:=M.cK i) hiq hs
   rw[bK] at hs
   refine Ph (l:=x.lc) (S:=M.aS) hic hs ?_
   have hs:=mH (m:=m) (x:=x) M ⟨l1,l2,l3⟩ hs
   have no:((M.aS i).over&& !(M.dC i).Qa&& !(M.cK i).qD)=false→Q (.bool false) h:=fun e=>by
    rw[ly (i:=i) (by omega) e,Bool.false_and] at hk
    exact hk _ (qo hs)
   refine bS (dQ (cU (fun a1=>cU (fun a2=>no (by rw[a2];simp)) (fun a2=>cU (fun a3=>no (by rw[a3];simp)) (fun a3=>bW (bE (by omega) ?_)))) (fun a1=>no (by rw[a1];rfl))))
   refine ih (i+1) x h ⟨l1,l2,l3⟩ (by omega) (fun j hj'=>?_) hs
   by_cases e:j=i
   ·subst e;rw[a1,a2,a3];rfl
   ·exact hj j (by omega)
 obtain⟨x,hs⟩:=Vv hs
 obtain⟨hl,hs⟩:=iF hs
 refine aB (aA (aC (b:=m) (o:=0) hs rfl (bZ ?_)))
 have hs:=mH (m:=m) (x:=x) M hl hs
 exact aF Cf.aF.toNat 0 x h hl (by omega) (fun j hj=>by omega) hs
end Go.Proofs.YtajjljbmfdboaaaGreatDoor
end
section
namespace Go.Proofs.YtajjljbmfdboaaaGreatDoor.H
open Go Go.Ab Go.Hm Go.Mc
def wM (H:iJ) (l:Nat):Bool:= !(H l).1.busy&&decide ((H l).1.waits≠[])
def gV (H:iJ) (n:Nat):List Nat:=(List.range n).filter fun l=>wM H l
theorem sx {H:iJ} {n:Nat}:gV H (n+1)=gV H n++if wM H n then [n] else []:=by
 unfold gV
 rw[List.range_succ,List.filter_append,List.filter_cons,List.filter_nil]
theorem Ts {H:iJ} {n:Nat}:(gV H n).length≤n:=by
 unfold gV
 have:=List.length_filter_le (fun l=>wM H l) (List.range n)
 simp at this
 exact this
set_option maxRecDepth 100000
variable {G:Bg} {h:AH} {L L':List HP} {Q:Value→AH→Prop}
def Q6 (G:Bg) (C:bL) (q hb:Nat) (H:iJ):HP:=sp [aE q 0 [pt hb 0 0],eY G hb C H]
def rK (H:iJ):Nat→Nat→List Nat
 |0,_=>[]
 |f+1,i=>if wM H i then i::rK H f (i+1) else rK H f (i+1)
theorem Yj {H:iJ}:∀(f i:Nat),gV H (i+f)=gV H i++rK H f i
 |0,i=>by simp[rK]
 |f+1,i=>by
  have:=Yj (H:=H) f (i+1)
  rw[show i+(f+1)=i+1+f by omega,this,sx]
  show _=_++(if wM H i then i::rK H f (i+1) else rK H f (i+1))
  split<;>simp
theorem aAa {C:bL} {q hb:Nat} {H:iJ} (hb32:C.lines≤1000):gu Pr K G 165 [] [pt q 0 0] (Q6 G C q hb H) ((gV H C.lines).map fun l:Nat=>[I l]):=by
 intro I' J y L h Q hs hy h1 h2
 have hs:=hs.xA
 have hs:Hs G h (eY G hb C H::aE q 0 [pt hb 0 0]::I' ((gV H C.lines).map fun l:Nat=>[I l])::L):=hs.kA
 obtain⟨mb,b,o,cap,hs⟩:=lE hs
 have e0:gV H C.lines=rK H C.lines 0:=by
  have:=Yj (H:=H) C.lines 0
  rw[Nat.zero_add] at this
  rw[this];rfl
 rw[e0] at hs
 have shut:∀{h:AH} {B:HP},Hs G h (dD C.lines (fun i=>dX b (o+i*25) (H i).1)::aE q 0 [pt hb 0 0]::aE hb 0 (jH mb C b o cap)::eN G C.lines mb C (fun i=>(H i).2)::hole G 25 247 (some ⟨b,o,none⟩) cap C.lines b o::B::L)→Hs G h (Q6 G C q hb H::B::L):=fun {h B} hs=>by
  have hs:=uZ C H hb mb b o cap hs
  exact(hs.cA (aE q 0 [pt hb 0 0]) (eY G hb C H)).zB
 have loop:∀(f i:Nat) (h:AH),i+f=C.lines→Hs G h (dD C.lines (fun i=>dX b (o+i*25) (H i).1)::aE q 0 [pt hb 0 0]::aE hb 0 (jH mb C b o cap)::eN G C.lines mb C (fun i=>(H i).2)::hole G 25 247 (some ⟨b,o,none⟩) cap C.lines b o::I' ((rK H f i).map fun l:Nat=>[I l])::L)→
   Dd 165 2 [] Q [y,(.slice (some ⟨b,o,none⟩) C.lines cap),(I C.lines),(I i)] h:=by
  intro f
  induction f with
  |zero=>
   intro i h hi hs
   exact bW (aN (aK (by omega) (h1 _ _ (shut hs))))
  |succ f ih=>
   intro i h hi hs
   have hl:i<C.lines:=by omega
   have hs:=Bw (H:=H) (b:=b) (o:=o) hl hs
   obtain⟨wa,wc,hs⟩:=dH hs
   refine bW (aN (bP (by omega) (bW (dK hl (aQ (b:=b) (o:=o+i*25) hs (by decide) (l:=(H i).1.enc wa wc) rfl rfl (bN hs fun p3 h hs=>aZ (b:=p3) hs rfl rfl rfl rfl fun h hs=>?_))))))
   have back:∀{h:AH} {B:HP} {M:List HP},Hs G h (B::aE b (o+i*25) ((H i).1.enc wa wc)::dB 9 175 wa wc ((H i).1.waits.length,eA (H i).1.waits)::uQ b o C.lines H i::aE q 0 [pt hb 0 0]::aE hb 0 (jH mb C b o cap)::eN G C.lines mb C (fun i=>(H i).2)::hole G 25 247 (some ⟨b,o,none⟩) cap C.lines b o::M)→
     Hs G h (dD C.lines (fun i=>dX b (o+i*25) (H i).1)::aE q 0 [pt hb 0 0]::aE hb 0 (jH mb C b o cap)::eN G C.lines mb C (fun i=>(H i).2)::hole G 25 247 (some ⟨b,o,none⟩) cap C.lines b o::B::M):=fun {h B M} hs=>by
    have hs:=iC (H i).1 (a:=wa) (c:=wc) (hs.cA (aE b (o+i*25) ((H i).1.enc wa wc)) (dB 9 175 wa wc ((H i).1.waits.length,eA (H i).1.waits)))
    have hs:=Hs.jx (i:=i) (f:=fun i=>dX b (o+i*25) (H i).1) (g:=fun i=>dX b (o+i*25) (H i).1) hl (fun j _=>rfl) (hs.cA (dX b (o+i*25) (H i).1) (uQ b o C.lines H i))
    exact hs.to
   refine aA (aC (b:=p3) (o:=0) hs rfl (bS (dQ (cU (fun c1=>?_) (fun c1=>?_)))))
   ·have e:rK H (f+1) i=rK H f (i+1):=by
     show(if wM H i then _ else _)=_
     rw[if_neg (by unfold wM;rw[c1];simp)]
    rw[e] at hs
    exact bE (by omega) (ih (i+1) h (by omega) (back hs.to))
   ·refine aA (aC (b:=p3) (o:=0) hs rfl (bZ (iS (aR (fun c2=>?_) (fun c2=>?_)))))
    ·have e:rK H (f+1) i=i::rK H f (i+1):=by
      show(if wM H i then _ else _)=_
      rw[if_pos (by unfold wM;rw[c1];simp;intro e;rw[e] at c2;simp at c2)]
     rw[e,List.map_cons] at hs
     refine(hy _ _ h _ (hs.front (I' ([I i]::(rK H f (i+1)).map fun l:Nat=>[I l])))).mono fun v h' hv=>?_
     rcases hv with⟨rfl,hs'⟩|⟨rfl,hs'⟩
     ·exact bS (bV (bW (bE (by omega) (ih (i+1) h' (by omega) (back hs'.to)))))
     ·exact bS (eQ (h2 _ _ (shut (back hs'.to))))
    ·have e:rK H (f+1) i=rK H f (i+1):=by
      show(if wM H i then _ else _)=_
      rw[if_neg (by unfold wM;rw[c1];simp;exact List.eq_nil_of_length_eq_zero (by omega))]
     rw[e] at hs
     exact bE (by omega) (ih (i+1) h (by omega) (back hs.to))
 refine cW (aC (b:=q) (o:=0) hs rfl (cN (bV (bW (aC (b:=q) (o:=0) hs rfl (aB (aA (aC (b:=hb) (o:=0) hs rfl (bZ ?_)))))))))
 exact loop C.lines 0 h (by omega) hs.to
def Fu (x:Int):List Value:=[I x]
instance:Fx Fu 1:=⟨fun _=>rfl,fun _=>rfl⟩
theorem sf {l:List Int}:eL Fu l=l.map I:=by
 induction l with
 |nil=>rfl
 |cons a l ih=>rw[nB,ih];rfl
def iZ (l:List Nat):List Int:=l.map fun x:Nat=>(x:Int)
abbrev hrX (p:Nat) (e:Nat→Value) (d l:Nat) (done:List Nat):HP:=rY fun x:Option Addr×Nat=>sp [jY Pr 56 (kD 58) 14 e d l (.ready,none),aE p 0 [.slice x.1 (iZ done).length x.2],ls Fu 1 3 x.1 x.2 (iZ done)]
theorem Ru {C:bL} {hb:Nat} {H:iJ} (hb32:C.lines≤1000) (hs:Hs G h L) [mm:Has (eY G hb C) L H L']
  (hk:∀q a c h',Hs G h' (F1 3 q a c (iZ (gV H C.lines))::eY G hb C H::L')→Q (.func (.func 166) #[] #[pt q 0 0]) h'):Cl Pr K 56 [pt hb 0 0] h Q:=by
 refine cW (bN (mm.of hs) fun p h hs=>cW (dI hs fun q h hs=>jX hs fun d h hs=>?_))
 intro e he
 refine mG hs fun l h hs=>rT rfl ?_
 have hs:=pV (enc:=Fu) (W:=1) (e:=3) hs
 have hs:Hs G h (Q6 G C q hb H::hrX p e d l []::mk d ()::L'):=by
  have hs:=(hs.cJ (jY Pr 56 (kD 58) 14 e d l (.ready,none)) (aE p 0 [.slice none 0 0]) (ls Fu 1 3 none 0 [])).Ko
  have hs:Hs G h (hrX p e d l []::_):=Hs.uH (A:=fun x:Option Addr×Nat=>sp [jY Pr 56 (kD 58) 14 e d l (.ready,none),aE p 0 [.slice x.1 (iZ []).length x.2],ls Fu 1 3 x.1 x.2 (iZ [])]) (none,0) hs
  have hs:=(hs.cA (aE q 0 [pt hb 0 0]) (eY G hb C H)).zB
  have hs:Hs G h (Q6 G C q hb H::_):=hs
  exact hs.to
 refine(aAa (C:=C) (q:=q) (hb:=hb) (H:=H) hb32).fold (X:=hrX p e d l) (Z:=fun _ _=>uI False) hs ?_ ?_ ?_
 ·intro done y h N hp hs
  have hlen:done.length≤1000:=by
   have:=hp.length_le
   have:=Ts (H:=H) (n:=C.lines)
   simp at*
   omega
  obtain⟨⟨a,c⟩,hs⟩:=hs.zE
  have hs:=hs.wP
  refine rW (rS hs) he (gU hs fun h hs=>aC (b:=p) (o:=0) hs rfl (aH (c:=[I y]) rfl (dE (W:=1) (n:=1) (c:=1) hs rfl rfl rfl fun a2 h hs=>?_)))
  have hs:=nL (enc:=Fu) (W:=1) (e:=3) (x:=(y:Int)) hs
  refine kB (enc:=Fu) (W:=1) (e:=3) (l:=iZ done) (l2:=[(y:Int)]) (a:=a) (c:=c) (a2:=some a2) (c2:=1) hs (by simp[iZ];omega) fun a' c' h hs=>aZ (b:=p) hs rfl rfl rfl rfl fun h hs=>iE hs fun h hs=> .inl ⟨rfl,?_⟩
  have e2:iZ done++[(y:Int)]=iZ (done++[y]):=by simp[iZ]
  rw[e2] at hs
  have hs:=(hs.cJ (jY Pr 56 (kD 58) 14 e d l (.ready,none)) (aE p 0 [.slice a' (iZ (done++[y])).length c']) (ls Fu 1 3 a' c' (iZ (done++[y])))).Ko
  have hs:Hs G h (hrX p e d l (done++[y])::_):=Hs.uH (A:=fun x:Option Addr×Nat=>sp [jY Pr 56 (kD 58) 14 e d l (.ready,none),aE p 0 [.slice x.1 (iZ (done++[y])).length x.2],ls Fu 1 3 x.1 x.2 (iZ (done++[y]))]) (a',c') hs
  exact hs.to
 ·intro v h hs
  obtain⟨⟨a,c⟩,hs⟩:=(hs.front (hrX p e d l (gV H C.lines))).zE
  have hs:=hs.wP
  refine mE hs fun h hs=>mC (aC (b:=p) (o:=0) hs rfl ?_)
  have hs:=hs.front (ls Fu 1 3 a c (iZ (gV H C.lines)))
  have e3:ls Fu 1 3 a c (iZ (gV H C.lines))=dB 1 3 a c ((iZ (gV H C.lines)).length,(iZ (gV H C.lines)).map I):=by unfold ls;rw[sf]
  rw[e3] at hs
  refine Eh (e:=3) (xs:=iZ (gV H C.lines)) rfl hs fun q2 h hs=>lN hs fun h hs=>jI (hk q2 a c _ ?_)
  have hs:=(hs.front (Q6 G C q hb H)).xA
  exact hs.to
 ·intro done y v h hp hs
  obtain⟨hf,hs⟩:=(hs.front (uI False)).bq
  exact hf.elim
end Go.Proofs.YtajjljbmfdboaaaGreatDoor.H
end
section
namespace Go.Proofs.YtajjljbmfdboaaaGreatDoor
open Go Go.Ab Go.Hm Go.At Go.Mc Go.Ct Go.Nt
instance:Fx Do.enc 4:=⟨fun _=>rfl,fun _=>rfl⟩
abbrev il (a:Option Addr) (c:Nat) (l:List Do):HP:=ls Do.enc 4 23 a c l
def dsP (p:Nat) (l:List Do) (x:Option Addr×Nat):List HP:=[aE p 0 [.slice x.1 l.length x.2],il x.1 x.2 l]
def J4 (p:Nat) (l:List Do):HP:=rY fun x:Option Addr×Nat=>sp (dsP p l x)
def kW (M:cR) (n:Nat):List Do:=((List.range n).filter fun i:Nat=> !(M.aS i).over&& !M.waits i).map (fun i:Nat=>(⟨0,i,0,0⟩:Do))
def pZ (M:cR) (c n:Nat):List Do:=((List.range n).filter fun w=>decide (M.jE c w≠[])).map fun w:Nat=>(⟨1,c,w,0⟩:Do)
def Ec (M:cR) (n:Nat):List Do:=(List.range n).flatMap fun c=>pZ M c 4
def rN (l:List Nat):List Do:=l.map fun l:Nat=>(⟨2,l,0,0⟩:Do)
def wS (C:bL) (M:cR) (n:Nat):List Do:=((List.range n).filter fun g:Nat=>M.iY C g).map fun g:Nat=>(⟨3,g,0,0⟩:Do)
theorem Bf {α:Type} {p:Nat→Bool} {f:Nat→α} {n:Nat}:((List.range (n+1)).filter p).map f=((List.range n).filter p).map f++if p n then [f n] else []:=by
 rw[List.range_succ,List.filter_append,List.map_append,List.filter_cons,List.filter_nil]
 split<;>rfl
theorem Dn {α:Type} {p:Nat→Bool} {f:Nat→α} {n:Nat}:(((List.range n).filter p).map f).length≤n:=by
 have:=List.length_filter_le p (List.range n)
 simp at this ⊢
 exact this
theorem wi {C:bL} {M:cR}:M.ready C=kW M C.aF.toNat++Ec M C.aF.toNat++rN (H.gV M.home C.lines)++wS C M C.bB.toNat:=by
 unfold cR.ready kW Ec pZ rN wS H.gV H.wM
 rfl
theorem lj {M:cR} {n:Nat}:Ec M (n+1)=Ec M n++pZ M n 4:=by
 unfold Ec;rw[List.range_succ,List.flatMap_append];simp
theorem Ou {M:cR}:∀{n:Nat},(Ec M n).length≤4*n
 |0=>Nat.le_refl _
 |n+1=>by
  rw[lj,List.length_append]
  have:=Ou (M:=M) (n:=n)
  have:(pZ M n 4).length≤4:=Dn
  omega
set_option maxRecDepth 100000
variable {G:Bg} {h:AH} {L L':List HP} {Q:Value→AH→Prop} {Cf:bL} {m N p3:Nat} {M:cR}
theorem xM {l:List Do} (hs:Hs G h (J4 p3 l::L)):∃a c,Hs G h (aE p3 0 [.slice a l.length c]::il a c l::L):=by
 obtain⟨⟨a,c⟩,hs⟩:=hs.zE
 exact⟨a,c,hs.xA⟩
theorem yO {l:List Do} {a:Option Addr} {c n:Nat} {L1 L2:List HP} (hs:Hs G h L) [k1:dP (aE p3 0 [.slice a n c]) L L1] [k2:dP (il a c l) L1 L2] (hn:n=l.length):Hs G h (J4 p3 l::L2):=by
 subst hn
 exact Hs.uH (A:=fun x:Option Addr×Nat=>sp (dsP p3 l x)) (a,c) (Hs.pack (A:=dsP p3 l (a,c)) (hs.perm (k1.perm.trans (k2.perm.cons _))))
theorem ya {x:MN} {t2 t72:Value} (hx:x.lc.length≤4) (hm:gB Cf M.dY) (hk:∀h',Hs G h' (J4 p3 (kW M x.lc.length)::mV G Cf m x M::L)→Dd 18 4 [] Q [(pt m 0 0),t2,(pt p3 0 0),t72] h'):
  ∀(f i:Nat) (h:AH),i+f=x.lc.length→Hs G h (J4 p3 (kW M i)::mV G Cf m x M::L)→Dd 18 2 [] Q [(pt m 0 0),t2,(pt p3 0 0),(.slice x.ac x.lc.length x.cc),(I x.lc.length),(I i),t72] h:=by
 intro f
 induction f with
 |zero=>
  intro i h hi hs
  obtain rfl:i=x.lc.length:=by omega
  exact bW (aN (aK (by omega) (hk h hs)))
 |succ f ih=>
  intro i h hi hs
  have hic:i<x.lc.length:=by omega
  have hle:(kW M i).length≤i:=Dn
  obtain⟨hl,hs⟩:=iF (hs.front (mV G Cf m x M))
  refine bW (aN (bP (by omega) (bW (Ei hs hic (Ph (l:=x.lc) (S:=M.aS) hic hs ?_)))))
  have hs:=mH (m:=m) (x:=x) M hl hs
  refine bS (dQ (cU (fun a1=>bE (by omega) (ih (i+1) h (by omega) ?_)) (fun a1=>Lf (x:=x) hm hs fun h hs=>bS (dQ (cU (fun a2=>bW (bE (by omega) (ih (i+1) h (by omega) ?_))) (fun a2=>bW ?_))))))
  ·have e:kW M (i+1)=kW M i:=by unfold kW;rw[Bf,if_neg (by rw[a1];simp),List.append_nil]
   rw[e];exact hs.to
  ·have e:kW M (i+1)=kW M i:=by unfold kW;rw[Bf,if_neg (by rw[a2];simp),List.append_nil]
   rw[e];exact hs.to
  ·have e:kW M (i+1)=kW M i++[⟨0,i,0,0⟩]:=by unfold kW;rw[Bf,if_pos (by rw[a1,a2];rfl)]
   obtain⟨a,c,hs⟩:=xM (hs.front (J4 p3 (kW M i)))
   refine aC (b:=p3) (o:=0) hs rfl (aH (c:=(⟨0,i,0,0⟩:Do).enc) rfl (aH (c:=(⟨0,i,0,0⟩:Do).enc) rfl (dE (W:=4) (n:=1) (c:=1) hs rfl rfl rfl fun a2 h hs=>?_)))
   have hs:=nL (enc:=Do.enc) (W:=4) (e:=23) (x:=⟨0,i,0,0⟩) hs
   refine kB (enc:=Do.enc) (W:=4) (e:=23) (l:=kW M i) (l2:=[⟨0,i,0,0⟩]) (a:=a) (c:=c) (a2:=some a2) (c2:=1) hs (by simp;omega) fun a' c' h hs=>aZ (b:=p3) hs rfl rfl rfl rfl fun h hs=>bE (by omega) (ih (i+1) h (by omega) ?_)
   have hs:=yO (p3:=p3) (a:=a') (c:=c') (l:=kW M i++[⟨0,i,0,0⟩]) hs rfl
   rw[e];exact hs.to
abbrev dlX (p3 p6 p7:Nat) (i w:Nat) (e:Nat→Value) (d l:Nat) (dl:List Do) (st:LoopState×Option Code) (pr:Prop):HP:=sp [uI pr,jY Pr 18 (kD 16410214) 96 e d l st,sp [aE p6 0 [I i],aE p7 0 [I w]],J4 p3 dl]
theorem xv {i p6:Nat} {t2 t44 t72:Value} {base:List Do} (hC:Cf.Ok) (hL:Wp Cf M.jE) (hi:(i:Int)<Cf.aF) (hb:base.length≤1000)
  (hk:∀ds h',Hs G h' (J4 p3 (base++pZ M i 4)::bG G Cf m M::Sx ds::L)→Dd 18 14 ds Q [(pt m 0 0),t2,(pt p3 0 0),t44,(I i),t72] h'):
  ∀(f w:Nat) (ds:List Nat) (h:AH),w+f=4→Hs G h (J4 p3 (base++pZ M i w)::aE p6 0 [I i]::bG G Cf m M::Sx ds::L)→Dd 18 10 ds Q [(pt m 0 0),t2,(pt p3 0 0),(pt p6 0 0),t44,(I i),(I w),t72] h:=by
 intro f
 induction f with
 |zero=>
  intro w ds h hw hs
  obtain rfl:w=4:=by omega
  exact bW (aN (aK (by omega) (hk ds h hs.to)))
 |succ f ih=>
  intro w ds h hw hs
  have hle:(pZ M i w).length≤w:=Dn
  obtain⟨x,hl,hs⟩:=cB (hs.front (bG G Cf m M))
  refine bW (aN (bP (by omega) (bW (bN hs fun p7 h hs=>aZ (b:=p7) hs rfl rfl rfl rfl fun h hs=>aU hs fun rr h hs=>aB (aA (aC (b:=m) (o:=0) hs rfl (aC (b:=p6) (o:=0) hs rfl (aC (b:=p7) (o:=0) hs rfl ?_))))))))
  refine Se (C:=Cf) (F:=M.jE) (x:=i) (y:=w) hC (hL.J7 hC) hi (by omega) hs fun q h hs=>jX hs fun d h hs=>?_
  have hs:=bC (m:=m) (x:=x) M hl hs
  intro e he
  refine mG hs fun l h hs=>rT rfl ?_
  have hs:Hs G h (sw q (M.jE i w)::dlX p3 p6 p7 i w e d l (base++pZ M i w) (.ready,none) (([]:List aJ)=[])::mk d ()::Sx ds::bG G Cf m M::L):=by
   have hs:=(hs.cA (aE p6 0 [I i]) (aE p7 0 [I w])).zB
   have hs:=hs.cJ (jY Pr 18 (kD 16410214) 96 e d l (.ready,none)) (sp [aE p6 0 [I i],aE p7 0 [I w]]) (J4 p3 (base++pZ M i w))
   have hs:=Hs.Ge (Hs.N9 (p:=([]:List aJ)=[]) rfl hs)
   exact hs.to
  refine(aEe (q:=q) (l:=M.jE i w) (by have:=hL.J7 hC i w;omega)).fold (X:=fun done=>dlX p3 p6 p7 i w e d l (base++pZ M i w) (.ready,none) (done=[])) (Z:=fun _ _=>dlX p3 p6 p7 i w e d l (base++pZ M i w++[⟨1,i,w,0⟩]) (.done,some (.exit 6)) (M.jE i w≠[])) hs ?_ ?_ ?_
  ·intro done y h N hp hs
   obtain⟨hd,hs⟩:=fP hs
   have hs:=hs.wP
   have hs:=(hs.front (sp [aE p6 0 [I i],aE p7 0 [I w]])).xA
   have hne:M.jE i w≠[]:=fun e=>by rw[e] at hp;have:=hp.length_le;simp at this
   obtain⟨a,c,hs⟩:=xM (hs.front (J4 p3 (base++pZ M i w)))
   refine rW (rS hs) he (gU hs fun h hs=>aC (b:=p3) (o:=0) hs rfl (aC (b:=p6) (o:=0) hs rfl (aC (b:=p7) (o:=0) hs rfl (aH (c:=(⟨1,i,w,0⟩:Do).enc) rfl (aH (c:=(⟨1,i,w,0⟩:Do).enc) rfl (dE (W:=4) (n:=1) (c:=1) hs rfl rfl rfl fun a2 h hs=>?_))))))
   have hs:=nL (enc:=Do.enc) (W:=4) (e:=23) (x:=⟨1,i,w,0⟩) hs
   refine kB (enc:=Do.enc) (W:=4) (e:=23) (l:=base++pZ M i w) (l2:=[⟨1,i,w,0⟩]) (a:=a) (c:=c) (a2:=some a2) (c2:=1) hs (by simp;omega) fun a' c' h hs=>aZ (b:=p3) hs rfl rfl rfl rfl fun h hs=>iE hs fun h hs=> .inr ⟨rfl,?_⟩
   have hs:=yO (p3:=p3) (a:=a') (c:=c') (l:=base++pZ M i w++[⟨1,i,w,0⟩]) hs rfl
   have hs:=(hs.cA (aE p6 0 [I i]) (aE p7 0 [I w])).zB
   have hs:=hs.cJ (jY Pr 18 (kD 16410214) 96 e d l (.done,some (.exit 6))) (sp [aE p6 0 [I i],aE p7 0 [I w]]) (J4 p3 (base++pZ M i w++[⟨1,i,w,0⟩]))
   exact(Hs.Ge (Hs.N9 (p:=M.jE i w≠[]) hne hs)).to
  ·intro v h hs
   obtain⟨hd,hs⟩:=fP (hs.front (dlX p3 p6 p7 i w e d l (base++pZ M i w) (.ready,none) (M.jE i w=[])))
   have hs:=hs.wP
   have hs:=(hs.front (sp [aE p6 0 [I i],aE p7 0 [I w]])).xA
   have e2:pZ M i (w+1)=pZ M i w:=by unfold pZ;rw[Bf,if_neg (by rw[hd];simp),List.append_nil]
   refine mE hs fun h hs=>mC (bE (by omega) (ih (w+1) (d::ds) h (by omega) ?_))
   have hs:=J0 (hs.cA (mk d ()) (Sx ds))
   rw[e2];exact hs.to
  ·intro done y v h hp hs
   obtain⟨hd,hs⟩:=fP (hs.front (dlX p3 p6 p7 i w e d l (base++pZ M i w++[⟨1,i,w,0⟩]) (.done,some (.exit 6)) (M.jE i w≠[])))
   have hs:=hs.wP
   have hs:=(hs.front (sp [aE p6 0 [I i],aE p7 0 [I w]])).xA
   have e2:pZ M i (w+1)=pZ M i w++[⟨1,i,w,0⟩]:=by unfold pZ;rw[Bf,if_pos (decide_eq_true hd)]
   refine Em hs fun h hs=>Hj rfl (bE (by omega) (ih (w+1) (d::ds) h (by omega) ?_))
   have hs:=J0 (hs.cA (mk d ()) (Sx ds))
   rw[e2,←List.append_assoc];exact hs.to
theorem uw {t2 t72:Value} {base:List Do} (hC:Cf.Ok) (hL:Wp Cf M.jE) (hb:base.length≤100)
  (hk:∀ds h',Hs G h' (J4 p3 (base++Ec M Cf.aF.toNat)::bG G Cf m M::Sx ds::L)→Dd 18 9 ds Q [(pt m 0 0),t2,(pt p3 0 0),t72] h'):
  ∀(f i:Nat) (ds:List Nat) (h:AH),i+f=Cf.aF.toNat→Hs G h (J4 p3 (base++Ec M i)::bG G Cf m M::Sx ds::L)→Dd 18 7 ds Q [(pt m 0 0),t2,(pt p3 0 0),(I Cf.aF.toNat),(I i),t72] h:=by
 have hc:=hC.1
 intro f
 induction f with
 |zero=>
  intro i ds h hi hs
  obtain rfl:i=Cf.aF.toNat:=by omega
  exact bW (aN (aK (by omega) (hk ds h hs)))
 |succ f ih=>
  intro i ds h hi hs
  have hle:=Ou (M:=M) (n:=i)
  refine bW (aN (bP (by omega) (bW (bN hs fun p6 h hs=>aZ (b:=p6) hs rfl rfl rfl rfl fun h hs=>?_))))
  refine xv (G:=G) (L:=L) (i:=i) (p6:=p6) (base:=base++Ec M i) hC hL (by omega) (by simp;omega) (fun ds h hs=>bW (bE (by omega) (ih (i+1) ds h (by omega) ?_))) 4 0 ds h rfl ?_
  ·rw[lj,←List.append_assoc];exact hs
  ·have e:base++Ec M i++pZ M i 0=base++Ec M i:=by simp[pZ]
   rw[e];exact hs.to
theorem xd {_t3':Value} {base:List Do} (hC:Cf.Ok) (hG:Gb G) (hi:rR Cf M.home (2^30)) (hb:base.length≤1000)
  (hk:∀a c h',Hs G h' (il a c (base++wS Cf M Cf.bB.toNat)::bG G Cf m M::L)→Q (.slice a (base++wS Cf M Cf.bB.toNat).length c) h'):
  ∀(f g:Nat) (ds:List Nat) (h:AH),g+f=Cf.bB.toNat→Hs G h (J4 p3 (base++wS Cf M g)::bG G Cf m M::Sx ds::L)→Dd 18 12 ds Q [(pt m 0 0),(pt p3 0 0),(I Cf.bB),(I g)] h:=by
 have hg16:1≤Cf.bB∧Cf.bB≤16:=hC.2.1
 intro f
 induction f with
 |zero=>
  intro g ds h hg hs
  obtain rfl:g=Cf.bB.toNat:=by omega
  obtain⟨a,c,hs⟩:=xM hs
  exact bW (aN (aK (by omega) (aC (b:=p3) (o:=0) hs rfl (aEg ds (hs.front (Sx ds)) fun h hs=>hk a c _ hs.to))))
 |succ f ih=>
  intro g ds h hg hs
  have hle:(wS Cf M g).length≤g:=Dn
  refine bW (aN (bP (by omega) (bW (Mf (Cf:=Cf) (M:=M) hC hG (by omega) hi (hs.front (bG G Cf m M)) fun h hs=>cU (fun a1=>bW ?_) (fun a1=>bW (bE (by omega) (ih (g+1) ds h (by omega) ?_)))))))
  ·have e:wS Cf M (g+1)=wS Cf M g++[⟨3,g,0,0⟩]:=by unfold wS;rw[Bf,if_pos a1]
   obtain⟨a,c,hs⟩:=xM (hs.front (J4 p3 (base++wS Cf M g)))
   refine aC (b:=p3) (o:=0) hs rfl (aH (c:=(⟨3,g,0,0⟩:Do).enc) rfl (aH (c:=(⟨3,g,0,0⟩:Do).enc) rfl (dE (W:=4) (n:=1) (c:=1) hs rfl rfl rfl fun a2 h hs=>?_)))
   have hs:=nL (enc:=Do.enc) (W:=4) (e:=23) (x:=⟨3,g,0,0⟩) hs
   refine kB (enc:=Do.enc) (W:=4) (e:=23) (l:=base++wS Cf M g) (l2:=[⟨3,g,0,0⟩]) (a:=a) (c:=c) (a2:=some a2) (c2:=1) hs (by simp;omega) fun a' c' h hs=>aZ (b:=p3) hs rfl rfl rfl rfl fun h hs=>bE (by omega) (ih (g+1) ds h (by omega) ?_)
   have hs:=yO (p3:=p3) (a:=a') (c:=c') (l:=base++wS Cf M g++[⟨3,g,0,0⟩]) hs rfl
   rw[e,←List.append_assoc];exact hs.to
  ·have e:wS Cf M (g+1)=wS Cf M g:=by unfold wS;rw[Bf,if_neg (by rw[a1];simp),List.append_nil]
   rw[e];exact hs.to
abbrev bgX (p3:Nat) (e:Nat→Value) (d l:Nat) (base:List Do) (done:List Int):HP:=sp [jY Pr 18 (kD 506) 96 e d l (.ready,none),J4 p3 (base++done.map fun l:Int=>(⟨2,l,0,0⟩:Do))]
theorem xg {t2 t72:Value} {base:List Do} {ds:List Nat} (hC:Cf.Ok) (hG:Gb G) (hi:rR Cf M.home (2^30)) (hb:base.length≤200)
  (hk:∀a c h',Hs G h' (il a c (base++rN (H.gV M.home Cf.lines)++wS Cf M Cf.bB.toNat)::bG G Cf m M::L)→Q (.slice a (base++rN (H.gV M.home Cf.lines)++wS Cf M Cf.bB.toNat).length c) h')
  (hs:Hs G h (J4 p3 base::bG G Cf m M::Sx ds::L)):Dd 18 9 ds Q [(pt m 0 0),t2,(pt p3 0 0),t72] h:=by
 have hln:=bL.eI hC
 have hg16:1≤Cf.bB∧Cf.bB≤16:=hC.2.1
 have hle:=H.Ts (H:=M.home) (n:=Cf.lines)
 obtain⟨x,hl,hs⟩:=cB (hs.front (bG G Cf m M))
 refine bW (aB (aA (aC (b:=m) (o:=0) hs rfl (H.Ru (C:=Cf) (H:=M.home) (by omega) hs fun q qa qc h hs=>jX hs fun d h hs=>?_))))
 have hs:=bC (m:=m) (x:=x) M hl hs
 intro e he
 refine mG hs fun l h hs=>rT rfl ?_
 have hs:Hs G h (H.F1 3 q qa qc (H.iZ (H.gV M.home Cf.lines))::bgX p3 e d l base []::mk d ()::Sx ds::bG G Cf m M::L):=by
  have e0:base++([]:List Int).map (fun l:Int=>(⟨2,l,0,0⟩:Do))=base:=List.append_nil _
  have hs:=(hs.cA (jY Pr 18 (kD 506) 96 e d l (.ready,none)) (J4 p3 base)).zB
  have e1:sp [jY Pr 18 (kD 506) 96 e d l (.ready,none),J4 p3 base]=bgX p3 e d l base []:=by unfold bgX;rw[e0]
  rw[e1] at hs
  exact hs.to
 have hzl:(H.iZ (H.gV M.home Cf.lines)).length≤100:=by unfold H.iZ;rw[List.length_map];omega
 refine(H.xV (e:=3) (p:=q) (a:=qa) (c:=qc) (xs:=H.iZ (H.gV M.home Cf.lines)) (by omega)).fold (X:=bgX p3 e d l base) (Z:=fun _ _=>uI False) hs ?_ ?_ ?_
 ·intro done y h N hp hs
  have hdl:done.length≤100:=by have:=hp.length_le;simp at this;omega
  have hs:=hs.xA
  obtain⟨a,c,hs⟩:=xM (hs.front (J4 p3 (base++done.map fun l:Int=>(⟨2,l,0,0⟩:Do))))
  refine rW (rS hs) he (gU hs fun h hs=>aC (b:=p3) (o:=0) hs rfl (aH (c:=(⟨2,y,0,0⟩:Do).enc) rfl (aH (c:=(⟨2,y,0,0⟩:Do).enc) rfl (dE (W:=4) (n:=1) (c:=1) hs rfl rfl rfl fun a2 h hs=>?_))))
  have hs:=nL (enc:=Do.enc) (W:=4) (e:=23) (x:=⟨2,y,0,0⟩) hs
  refine kB (enc:=Do.enc) (W:=4) (e:=23) (l:=base++done.map fun l:Int=>(⟨2,l,0,0⟩:Do)) (l2:=[⟨2,y,0,0⟩]) (a:=a) (c:=c) (a2:=some a2) (c2:=1) hs (by simp;omega) fun a' c' h hs=>aZ (b:=p3) hs rfl rfl rfl rfl fun h hs=>iE hs fun h hs=> .inl ⟨rfl,?_⟩
  have hs:=yO (p3:=p3) (a:=a') (c:=c') (l:=base++done.map (fun l:Int=>(⟨2,l,0,0⟩:Do))++[⟨2,y,0,0⟩]) hs rfl
  have e2:base++done.map (fun l:Int=>(⟨2,l,0,0⟩:Do))++[⟨2,y,0,0⟩]=base++(done++[y]).map fun l:Int=>(⟨2,l,0,0⟩:Do):=by simp
  rw[e2] at hs
  exact((hs.cA (jY Pr 18 (kD 506) 96 e d l (.ready,none)) (J4 p3 (base++(done++[y]).map fun l:Int=>(⟨2,l,0,0⟩:Do)))).zB).to
 ·intro v h hs
  have hs:=(hs.front (bgX p3 e d l base (H.iZ (H.gV M.home Cf.lines)))).xA
  have e2:base++(H.iZ (H.gV M.home Cf.lines)).map (fun l:Int=>(⟨2,l,0,0⟩:Do))=base++rN (H.gV M.home Cf.lines):=by unfold H.iZ rN;rw[List.map_map];rfl
  rw[e2] at hs
  refine mE hs fun h hs=>mC ?_
  have hs:=J0 (hs.cA (mk d ()) (Sx ds))
  obtain⟨x,hl,hs⟩:=cB (hs.front (bG G Cf m M))
  refine aB (aA (aA (aC (b:=m) (o:=0) hs (v:=I Cf.bB) rfl ?_)))
  have hs:=bC (m:=m) (x:=x) M hl hs
  have hbl:(base++rN (H.gV M.home Cf.lines)).length≤1000:=by unfold rN;simp;omega
  have e3:base++rN (H.gV M.home Cf.lines)++wS Cf M 0=base++rN (H.gV M.home Cf.lines):=List.append_nil _
  exact xd (_t3':=t2) (base:=base++rN (H.gV M.home Cf.lines)) hC hG hi hbl (L:=L) hk Cf.bB.toNat 0 (d::ds) h (by omega) (by rw[e3];exact hs.to)
 ·intro done y v h hp hs
  obtain⟨hf,hs⟩:=(hs.front (uI False)).bq
  exact hf.elim
theorem fc (hC:Cf.Ok) (hG:Gb G) (hm:gB Cf M.dY) (hL:Wp Cf M.jE) (hi:rR Cf M.home (2^30)) (hs:Hs G h L) [mm:Has (bG G Cf m) L M L']
  (hk:∀a c h',Hs G h' (il a c (M.ready Cf)::bG G Cf m M::L')→Q (.slice a (M.ready Cf).length c) h'):Cl Pr K 18 [pt m 0 0] h Q:=by
 have hc:=hC.1
 rw[wi] at hk
 refine cW (cN (bV (bW (bN (mm.of hs) fun p3 h hs=>?_))))
 obtain⟨x,hs⟩:=Vv (hs.front (bG G Cf m M))
 obtain⟨hl,hs⟩:=iF hs
 have hl1:=hl.1
 refine aB (aA (aC (b:=m) (o:=0) hs rfl (bZ ?_)))
 have hs:=mH (m:=m) (x:=x) M hl hs
 have hs:=yO (p3:=p3) (a:=none) (c:=0) (l:=[]) (pV (enc:=Do.enc) (W:=4) (e:=23) hs) rfl
 refine ya (x:=x) (L:=L') (by omega) hm (fun h hs=>?_) x.lc.length 0 h (by omega) (show Hs G h (J4 p3 []::mV G Cf m x M::L') from hs.to)
 obtain⟨hl,hs⟩:=iF (hs.front (mV G Cf m x M))
 refine bW (aB (aA (aC (b:=m) (o:=0) hs rfl (bZ ?_))))
 have hs:=bC (m:=m) (x:=x) M hl hs
 have hs:=xw hs
 rw[hl1] at hs ⊢
 have hle:(kW M Cf.aF.toNat).length≤Cf.aF.toNat:=Dn
 have hle2:=Ou (M:=M) (n:=Cf.aF.toNat)
 refine uw (base:=kW M Cf.aF.toNat) (L:=L') hC hL (by omega) (fun ds h hs=>?_) Cf.aF.toNat 0 [] h (by omega) (by rw[show kW M Cf.aF.toNat++Ec M 0=kW M Cf.aF.toNat from List.append_nil _];exact hs.to)
 exact xg (base:=kW M Cf.aF.toNat++Ec M Cf.aF.toNat) (L:=L') hC hG hi (by simp;omega) hk hs
end Go.Proofs.YtajjljbmfdboaaaGreatDoor
end
end
section
namespace Go.Mc
open Go Go.Ab Go.Hm Go.At Go.Is Go.Ct Go.Nt
variable {C:bL} {N:Nat} {M M':cR} {d:Do} {S:Nat→aX}
def qH (C:bL) (r:cR×Nat) (d:Do):cR×Nat:=
 let a:=r.1.uW C d
 if a.2≠0 then(a.1,r.2)
 else if d.iH≠1∨d.b≠2 then(a.1,r.2+1)
 else
  let b:=a.1.uW C ⟨0,d.a,0,0⟩
  if b.2=0 then(b.1,r.2+2) else(b.1,r.2+1)
def cR.round (C:bL) (M:cR):cR×Nat:=(M.ready C).foldl (qH C) (M,0)
def wN (d:Do):Nat:=if d.iH=1∧d.b=2 then 2 else 1
def wE (d:Do):Nat:=if d.iH=0∨d.iH=3∨(d.iH=1∧d.b=2) then 1 else 0
theorem P3 (ho:Out C d M M'):M.log.length≤M'.log.length∧M'.log.length≤M.log.length+(if d.iH=0∨d.iH=3 then 1 else 0):=by
 cases ho with
 |same h1 h2 h3=>rw[h2];omega
 |ev i s v hi hd hw h1 h2 hc hr h3=>rw[h2,if_pos (.inl hd.1)];simp
 |ask i g hi hd hw h1 h2 hx h3=>rw[h2];omega
 |fin i g s v hi hd hg h1 h2 hc ho ha hr h3=>rw[h2,if_pos (.inr hd)];simp
structure Sa (C:bL) (S:Nat→aX) (N:Nat) (M:cR) (n:Nat) (k e:Nat) (r:cR×Nat):Prop where
 all:Jp C S N r.1
 n0:n≤r.2
 n1:r.2≤n+k
 l0:M.log.length≤r.1.log.length
 l1:r.1.log.length≤M.log.length+e
theorem Yp (hC:C.Ok) (h:Jp C S N M) {n:Nat}:Sa C S (N+4) M n (wN d) (wE d) (qH C (M,n) d):=by
 have h1:=h.uW (d:=d) hC
 have o1:=P3 (On (d:=d) hC h.inv h.wait)
 have up:∀{M:cR},Jp C S (N+2) M→Jp C S (N+4) M:=fun h=>⟨⟨h.inv.dY,h.inv.A3,h.inv.Tw,h.inv.wQ,fun l hl=>⟨(h.inv.home l hl).1,by have:=(h.inv.home l hl).2;omega⟩,h.inv.jE,by have:=h.inv.log;omega⟩,h.wait,h.ig⟩
 unfold qH
 dsimp only
 by_cases c1:(M.uW C d).2≠0
 ·rw[if_pos c1]
  exact⟨up h1,Nat.le_refl _,by omega,o1.1,by unfold wE;grind⟩
 rw[if_neg c1]
 by_cases c2:d.iH≠1∨d.b≠2
 ·rw[if_pos c2]
  exact⟨up h1,by omega,by unfold wN;rw[if_neg (by omega)];exact Nat.le_refl _,o1.1,by unfold wE;grind⟩
 rw[if_neg c2]
 have h2:=h1.uW (d:=⟨0,d.a,0,0⟩) hC
 have o2:=P3 (On (d:=⟨0,d.a,0,0⟩) hC h1.inv h1.wait)
 rw[if_pos (.inl rfl)] at o2
 have e1:wN d=2:=by unfold wN;rw[if_pos (by omega)]
 have e2:wE d=1:=by unfold wE;rw[if_pos (by omega)]
 rw[if_neg (by omega)] at o1
 split
 ·exact⟨h2,by dsimp only;omega,by dsimp only;omega,by dsimp only;omega,by dsimp only;omega⟩
 ·exact⟨h2,by dsimp only;omega,by dsimp only;omega,by dsimp only;omega,by dsimp only;omega⟩
theorem vr (hC:C.Ok):∀{l:List Do} {N:Nat} {M:cR} {n:Nat},Jp C S N M→Sa C S (N+4*l.length) M n (l.map wN).sum (l.map wE).sum (l.foldl (qH C) (M,n)):=by
 intro l
 induction l with
 |nil=>intro N M n h;exact⟨h,Nat.le_refl _,Nat.le_refl _,Nat.le_refl _,Nat.le_refl _⟩
 |cons d l ih=>
  intro N M n h
  have h1:=Yp (d:=d) hC h (n:=n)
  have h2:Sa C S (N+4+4*l.length) (qH C (M,n) d).1 (qH C (M,n) d).2 (l.map wN).sum (l.map wE).sum (l.foldl (qH C) (qH C (M,n) d)):=ih h1.all (n:=(qH C (M,n) d).2)
  rw[List.map_cons,List.map_cons,List.sum_cons,List.sum_cons,List.foldl_cons,List.length_cons]
  have a1:=h1.n0;have a2:=h1.n1;have a3:=h1.l0;have a4:=h1.l1
  have b1:=h2.n0;have b2:=h2.n1;have b3:=h2.l0;have b4:=h2.l1
  refine⟨?_,by omega,by omega,by omega,by omega⟩
  have:=h2.all
  rw[show N+4+4*l.length=N+4*(l.length+1) by omega] at this
  exact this
theorem Pg {α:Type} {f:α→Nat} {k:Nat}:∀{l:List α},(∀x∈l,f x≤k)→(l.map f).sum≤k*l.length
 |[],_=>Nat.zero_le _
 |x::l,h=>by
  have h1:=h x (by simp)
  have h2:=Pg (f:=f) (k:=k) (l:=l) fun y hy=>h y (by simp[hy])
  rw[List.map_cons,List.sum_cons,List.length_cons,Nat.mul_add]
  omega
theorem Cj {n:Nat} {p:Nat→Bool}:((List.range n).filter p).length≤n:=by
 have:=List.length_filter_le p (List.range n)
 simp at this ⊢
 exact this
theorem w8 {c:Nat} {p:Nat→Bool}:((((List.range 4).filter p).map fun w:Nat=>(⟨1,c,w,0⟩:Do)).map wN).sum≤5∧((((List.range 4).filter p).map fun w:Nat=>(⟨1,c,w,0⟩:Do)).map wE).sum≤1:=by
 have e:List.range 4=[0,1,2,3]:=rfl
 rw[e]
 cases h0:p 0<;>cases h1:p 1<;>cases h2:p 2<;>cases h3:p 3<;>simp[h0,h1,h2,h3,wN,wE]
theorem P6 {p:Nat→Nat→Bool}:∀{n:Nat},((((List.range n).flatMap fun c=>((List.range 4).filter (p c)).map fun w:Nat=>(⟨1,c,w,0⟩:Do))).map wN).sum≤5*n∧((((List.range n).flatMap fun c=>((List.range 4).filter (p c)).map fun w:Nat=>(⟨1,c,w,0⟩:Do))).map wE).sum≤n∧(((List.range n).flatMap fun c=>((List.range 4).filter (p c)).map fun w:Nat=>(⟨1,c,w,0⟩:Do))).length≤4*n
 |0=>⟨Nat.le_refl _,Nat.le_refl _,Nat.le_refl _⟩
 |n+1=>by
  obtain⟨a,b,c⟩:=P6 (p:=p) (n:=n)
  obtain⟨d1,d2⟩:=w8 (c:=n) (p:=p n)
  have d3:=Cj (n:=4) (p:=p n)
  rw[List.range_succ (n:=n),List.flatMap_append,List.map_append,List.map_append,List.sum_append,List.sum_append,List.length_append]
  simp only[List.flatMap_cons,List.flatMap_nil,List.append_nil,List.length_map] at*
  omega
theorem Kp:((M.ready C).map wN).sum≤6*C.aF.toNat+C.lines+C.bB.toNat∧((M.ready C).map wE).sum≤2*C.aF.toNat+C.bB.toNat∧(M.ready C).length≤5*C.aF.toNat+C.lines+C.bB.toNat:=by
 obtain⟨d1,d2,d3⟩:=P6 (p:=fun c w=>decide (M.jE c w≠[])) (n:=C.aF.toNat)
 have one:∀{l:List Nat} {f:Nat→Do},(∀i,(f i).iH≠1)→((l.map f).map wN).sum≤l.length:=fun {l f} h=>by
  have:=Pg (f:=wN) (k:=1) (l:=l.map f) fun x hx=>by
   obtain⟨i,_,rfl⟩:=List.mem_map.1 hx
   unfold wN;rw[if_neg (fun e=>h i e.1)];exact Nat.le_refl _
  rw[List.length_map] at this;omega
 have onE:∀{l:List Nat} {f:Nat→Do},((l.map f).map wE).sum≤l.length:=fun {l f}=>by
  have:=Pg (f:=wE) (k:=1) (l:=l.map f) fun x hx=>by unfold wE;split<;>omega
  rw[List.length_map] at this;omega
 have zer:∀{l:List Nat} {f:Nat→Do},(∀i,(f i).iH=2)→((l.map f).map wE).sum≤0:=fun {l f} h=>by
  have:=Pg (f:=wE) (k:=0) (l:=l.map f) fun x hx=>by
   obtain⟨i,_,rfl⟩:=List.mem_map.1 hx
   unfold wE;rw[if_neg (by have:=h i;omega)];exact Nat.le_refl _
  omega
 unfold cR.ready
 simp only[List.map_append,List.sum_append,List.length_append]
 have s1:=one (l:=(List.range C.aF.toNat).filter fun i:Nat=> !(M.aS i).over&& !M.waits i) (f:=fun i:Nat=>(⟨0,i,0,0⟩:Do)) (fun i=>by dsimp only;omega)
 have s2:=onE (l:=(List.range C.aF.toNat).filter fun i:Nat=> !(M.aS i).over&& !M.waits i) (f:=fun i:Nat=>(⟨0,i,0,0⟩:Do))
 have s3:=Cj (n:=C.aF.toNat) (p:=fun i:Nat=> !(M.aS i).over&& !M.waits i)
 have t1:=one (l:=(List.range C.lines).filter fun l=> !(M.home l).1.busy&&decide ((M.home l).1.waits≠[])) (f:=fun l:Nat=>(⟨2,l,0,0⟩:Do)) (fun i=>by dsimp only;omega)
 have t2:=zer (l:=(List.range C.lines).filter fun l=> !(M.home l).1.busy&&decide ((M.home l).1.waits≠[])) (f:=fun l:Nat=>(⟨2,l,0,0⟩:Do)) (fun i=>rfl)
 have t3:=Cj (n:=C.lines) (p:=fun l=> !(M.home l).1.busy&&decide ((M.home l).1.waits≠[]))
 have u1:=one (l:=(List.range C.bB.toNat).filter fun g:Nat=>M.iY C g) (f:=fun g:Nat=>(⟨3,g,0,0⟩:Do)) (fun i=>by dsimp only;omega)
 have u2:=onE (l:=(List.range C.bB.toNat).filter fun g:Nat=>M.iY C g) (f:=fun g:Nat=>(⟨3,g,0,0⟩:Do))
 have u3:=Cj (n:=C.bB.toNat) (p:=fun g:Nat=>M.iY C g)
 simp only[List.length_map] at*
 omega
theorem mu (hC:C.Ok) (h:Jp C S N M):Sa C S (N+400) M 0 (6*C.aF.toNat+C.lines+C.bB.toNat) (2*C.aF.toNat+C.bB.toNat) (M.round C):=by
 have h1:Sa C S (N+4*(M.ready C).length) M 0 ((M.ready C).map wN).sum ((M.ready C).map wE).sum (M.round C):=vr hC (l:=M.ready C) (n:=0) h
 obtain⟨r1,r2,r3⟩:=Kp (C:=C) (M:=M)
 have hc:=hC.1
 have hg:=hC.2.1
 have hln:=bL.eI hC
 have up:∀{K:Nat} {M:cR},K≤N+400→Jp C S K M→Jp C S (N+400) M:=fun hK h=>⟨⟨h.inv.dY,h.inv.A3,h.inv.Tw,h.inv.wQ,fun l hl=>⟨(h.inv.home l hl).1,by have:=(h.inv.home l hl).2;omega⟩,h.inv.jE,by have:=h.inv.log;omega⟩,h.wait,h.ig⟩
 exact⟨up (by omega) h1.all,h1.n0,by have:=h1.n1;omega,h1.l0,by have:=h1.l1;omega⟩
end Go.Mc
end
section
open Go Go.Ab
attribute [local irreducible] bA Br pN uC uU Dp nH xW nQ Tx gZ mQ rE sP qX lA B8 uK Y9 dw Tv Sl dj Ty Ry U9 Yi lJ pF vW jB copyV jC wY ft Zd Iw lI P0 Wx en qE uG Be Dk Cl zV Xm uE sS lC gK cS cC
section
namespace Go.Proofs.YtajjljbmfdboaaaGreatDoor
open Go Go.Ab Go.Hm Go.At Go.Mc Go.Ct Go.Nt Go.Is
theorem y1 {Cf:bL} {M:cR} {d:Do}:(M.rX Cf [d] 0).2.2=(M.uW Cf d).2:=by
 unfold cR.rX
 split
 ·rfl
 ·rename_i h
  have:(M.uW Cf d).2=0:=Decidable.not_not.1 h
  rw[this];rfl
set_option maxRecDepth 100000
variable {G:Bg} {h:AH} {L L':List HP} {Q:Value→AH→Prop} {Cf:bL} {m N:Nat} {M:cR} {S:Nat→aX}
theorem Wt {al:Option Addr} {cl:Nat} {l:List Do} {r:cR×Nat} (hC:Cf.Ok) (hG:Gb G) (hl:l.length≤1000) (hk:∀h',Hs G h' (bG G Cf m r.1::L)→Q (I r.2) h'):
  ∀(f i N n:Nat) (M:cR) (h:AH),i+f=l.length→n≤2*i→Mc.Jp Cf S N M→N+4*f≤2^27→(l.drop i).foldl (qH Cf) (M,n)=r→Hs G h (il al cl l::bG G Cf m M::L)→
   Dd 28 2 [] Q [(.func (.func 15) #[pt m 0 0] #[]),(I n),(.slice al l.length cl),(I l.length),(I i)] h:=by
 intro f
 induction f with
 |zero=>
  intro i N n M h hi hn hA hN hr hs
  rw[List.drop_of_length_le (by omega)] at hr
  subst hr
  exact bW (aN (aK (by omega) (hk _ hs.tail)))
 |succ f ih=>
  intro i N n M h hi hn hA hN hr hs
  obtain⟨d,hx,hd⟩:=qV (l:=l) (i:=i) (by omega)
  rw[hd,List.foldl_cons] at hr
  have h1:=Yp (d:=d) hC hA (n:=n)
  have hA1:=hA.uW (d:=d) hC
  have next:∀(h:AH),Hs G h (il al cl l::bG G Cf m (qH Cf (M,n) d).1::L)→Dd 28 2 [] Q [(.func (.func 15) #[pt m 0 0] #[]),(I (qH Cf (M,n) d).2),(.slice al l.length cl),(I l.length),(I ((i:Int)+1))] h:=fun h hs=>by
   have a2:=h1.n1
   have a3:wN d≤2:=by unfold wN;split<;>omega
   exact ih (i+1) (N+4) (qH Cf (M,n) d).2 (qH Cf (M,n) d).1 h (by omega) (by omega) h1.all (by omega) hr hs
  refine bW (aN (bP (by omega) (bW (tM (l:=l) (a:=al) (c:=cl) (enc:=Do.enc) (e:=23) hs (by decide) (by omega) (by rw[Int.toNat_natCast];exact hx) (bN hs fun p3 h hs=>aZ (b:=p3) hs rfl rfl rfl rfl fun h hs=>?_)))))
  refine aQ (b:=p3) (o:=0) hs (by decide) (l:=d.enc) rfl rfl (aH (c:=d.enc) rfl (dE (W:=4) (n:=1) (c:=1) hs rfl rfl rfl fun a h hs=>?_))
  have hs:Hs G h (dB 4 23 (some a) 1 (1,d.enc)::bG G Cf m M::sp [aE p3 0 d.enc,il al cl l]::L):=hs.to
  refine nA rfl (Uk (d:=d) (M:=M) hC hG hA.inv (by omega) hs fun h hs=>aG rfl (aG rfl ?_))
  have hs:=(hs.front (sp [aE p3 0 d.enc,il al cl l])).xA
  rw[y1]
  refine aY (aR (fun c1=>?_) (fun c1=>?_))
  ·have e:qH Cf (M,n) d=((M.uW Cf d).1,n):=by unfold qH;dsimp only;rw[if_pos c1]
   rw[e] at next
   dsimp only at next
   exact bW (bE (by omega) (next h hs.to))
  refine bW (bE (by omega) (aA (aC (b:=p3) (o:=0) hs (v:=I d.iH) rfl (aY (aR (fun c2=>?_) (fun c2=>?_))))))
  ·have e:qH Cf (M,n) d=((M.uW Cf d).1,n+1):=by unfold qH;dsimp only;rw[if_neg c1,if_pos (.inl c2)]
   rw[e] at next
   dsimp only at next
   exact bE (by omega) (next h hs.tail)
  refine aA (aC (b:=p3) (o:=0) hs (v:=I d.b) rfl (aY (aR (fun c3=>?_) (fun c3=>bW ?_))))
  ·have e:qH Cf (M,n) d=((M.uW Cf d).1,n+1):=by unfold qH;dsimp only;rw[if_neg c1,if_pos (.inr c3)]
   rw[e] at next
   dsimp only at next
   exact bW (bE (by omega) (next h hs.tail))
  refine aA (aC (b:=p3) (o:=0) hs (v:=I d.a) rfl (aH (c:=(⟨0,d.a,0,0⟩:Do).enc) rfl (aH (c:=(⟨0,d.a,0,0⟩:Do).enc) rfl (dE (W:=4) (n:=1) (c:=1) hs rfl rfl rfl fun a2 h hs=>?_))))
  have hs:Hs G h (dB 4 23 (some a2) 1 (1,(⟨0,d.a,0,0⟩:Do).enc)::bG G Cf m (M.uW Cf d).1::il al cl l::L):=hs.to
  refine nA rfl (Uk (d:=⟨0,d.a,0,0⟩) (M:=(M.uW Cf d).1) hC hG hA1.inv (by omega) hs fun h hs=>aG rfl (aG rfl ?_))
  rw[y1]
  refine bH (aR (fun c4=>bW ?_) (fun c4=>bW ?_))
  ·have e:qH Cf (M,n) d=(((M.uW Cf d).1.uW Cf ⟨0,d.a,0,0⟩).1,n+2):=by unfold qH;dsimp only;rw[if_neg c1,if_neg (by omega),if_pos c4]
   rw[e] at next
   dsimp only at next
   exact bE (by omega) (bE (by omega) (next h hs.to))
  ·have e:qH Cf (M,n) d=(((M.uW Cf d).1.uW Cf ⟨0,d.a,0,0⟩).1,n+1):=by unfold qH;dsimp only;rw[if_neg c1,if_neg (by omega),if_neg c4]
   rw[e] at next
   dsimp only at next
   exact bE (by omega) (next h hs.to)
theorem cu (hC:Cf.Ok) (hG:Gb G) (hA:Mc.Jp Cf S N M) (hN:N≤2^26) (hs:Hs G h L) [mm:Has (bG G Cf m) L M L'] (hk:∀h',Hs G h' (bG G Cf m (M.round Cf).1::L')→Q (I (M.round Cf).2) h'):Cl Pr K 28 [pt m 0 0] h Q:=by
 obtain⟨r1,r2,r3⟩:=Kp (C:=Cf) (M:=M)
 have hc:=hC.1
 have hg:=hC.2.1
 have hln:=bL.eI hC
 refine cW (cN (bV (bW (fc (Cf:=Cf) (M:=M) hC hG hA.inv.dY hA.inv.jE.len (hA.inv.home.h (by omega)) (mm.of hs) fun a c h hs=>bZ ?_))))
 exact Wt (S:=S) (l:=M.ready Cf) (r:=M.round Cf) hC hG (by omega) hk (M.ready Cf).length 0 N 0 M h (by omega) (Nat.le_refl _) hA (by omega) rfl hs
theorem U4 {lv:Value} {l:List Do} (hC:Cf.Ok) (hG:Gb G) (hl:l.length≤200) (hd:Rz G lv l) (hk:∀N M' h',N≤400→Mc.Jp Cf S N M'→Hs G h' (bG G Cf m M'::L)→Q (pt m 0 0) h'):
  ∀(f i:Nat) (M:cR) (h:AH),i+f=l.length→Mc.Jp Cf S (2*i) M→Hs G h (bG G Cf m M::L)→Dd 43 3 [] Q [lv,(pt m 0 0),(I i)] h:=by
 intro f
 induction f with
 |zero=>
  intro i M h hi hA hs
  exact bW (aBx hd (aN (aK (by omega) (hk (2*i) M h (by omega) hA hs))))
 |succ f ih=>
  intro i M h hi hA hs
  obtain⟨d,hx,_⟩:=qV (l:=l) (i:=i) (by omega)
  have hI':=hA.uW (d:=d) hC
  have hs:=vy hd hs
  refine bW (aBx hd (aN (bP (by omega) (Pc (eQ (bW (aBw hs (by decide) (re hx) (aH (c:=d.enc) rfl (dE (W:=4) (n:=1) (c:=1) hs.tail rfl rfl rfl fun a h hs=>?_)))))))))
  exact Uk (d:=d) (M:=M) hC hG hA.inv (by omega) hs fun h hs=>bE (by omega) (ih (i+1) _ h (by omega) hI' hs)
theorem m4 {pv wv ov vv lv:Value} {ps:List (List Ins)} {ws os vs:List Int} {l:List Do} (hn:ps.length≤9223372036854775807) (hl:l.length≤200) (hG:Gb G) (hg:Ob G 1 tU) (hom:A.ga G pv wv ov vv ps ws os vs) (hd:Rz G lv l) (hs:Hs G h L)
  (k0:∀h',Hs G h' L→Q (.pointer none) h') (hk:∀N M m h',Cf.Ok→N≤400→Mc.Jp Cf (T7 ps ws) N M→Hs G h' (bG G Cf m M::L)→Q (pt m 0 0) h'):Cl Pr K 43 [.agg ⟨Ky Cf pv wv ov vv⟩,lv] h Q:=by
 refine cW (dI (cs:=Ky Cf pv wv ov vv) hs fun p2 h hs=>aQ (b:=p2) (o:=0) hs (by decide) (l:=Ky Cf pv wv ov vv) rfl rfl ?_)
 refine aBh hn hom hs (fun hf h hs=>bS (dQ (eQ (bW ?_)))) (fun h hs=>bS (dQ (bV (k0 _ hs.tail))))
 refine aQ (b:=p2) (o:=0) hs (by decide) (l:=Ky Cf pv wv ov vv) rfl rfl ?_
 refine xc (Cf:=Cf) (by omega) hG hg hom hs (fun he h hs=>aG rfl (aG rfl (aY (bP he (k0 _ hs.tail))))) fun he m h hs=>?_
 refine aG rfl (aG rfl (aY (aK (by omega) (bW ?_))))
 obtain⟨hC,_⟩:=O6 he
 exact U4 (S:=T7 ps ws) (L:=aE p2 0 (Ky Cf pv wv ov vv)::L) hC hG hl hd (fun N M h hN hA hs=>hk N M m h hC hN hA hs.to) l.length 0 _ h (by omega) (u6 he) hs
end Go.Proofs.YtajjljbmfdboaaaGreatDoor
end
section
namespace Go.Proofs.YtajjljbmfdboaaaGreatDoor
open Go Go.Ab Go.Hm Go.At Go.Mc Go.Ct Go.Nt Go.Is
set_option maxRecDepth 100000
variable {G:Bg} {h:AH} {L L':List HP} {Q:Value→AH→Prop} {Cf:bL} {m N:Nat} {M:cR} {S:Nat→aX}
theorem uL (hk:Q (.bool true) h):Cl Pr K 29 [] h Q:=by
 unfold Cl
 exact q5 (v:= .bool true) rfl hk
theorem nq {p2:Nat} {cs:List Value} (hC:Cf.Ok) (hG:Gb G) (hcs0:cs[0]?=some (I Cf.aF)) (hcs1:cs[1]?=some (I Cf.bB)) (hk:∀h',Q (.bool true) h'):
  ∀(f i N:Nat) (M:cR) (h:AH),i+f=30→N≤400+400*i→Mc.Jp Cf S N M→Hs G h (bG G Cf m M::aE p2 0 cs::L)→Dd 11 3 [] Q [(pt p2 0 0),(pt m 0 0),(I i)] h:=by
 have hc:=hC.1
 have hg:=hC.2.1
 have hln:=bL.eI hC
 intro f
 induction f with
 |zero=>
  intro i N M h hi hN hA hs
  exact bW (aN (aK (by omega) (uL (hk _))))
 |succ f ih=>
  intro i N M h hi hN hA hs
  have h1:=mu hC hA
  have a1:=h1.n1;have a2:=h1.l0;have a3:=h1.l1
  have hlen:=hA.len
  refine bW (aN (bP (by omega) (jo (Cf:=Cf) (M:=M) hC hG hA.inv.jE.len (hA.inv.home.h (by omega)) hs fun h hs=>bS (dQ (cU (fun _=>uL (hk _)) (fun _=>bW ?_))))))
  refine M7 (Cf:=Cf) (M:=M) hs fun h hs=>cu (S:=S) (M:=M) hC hG hA (by omega) hs fun h hs=>aU hs fun rr h hs=>?_
  refine aN (aK (by omega) ?_)
  refine aA (aA (aC (b:=p2) (o:=0) hs hcs0 (pO (by omega) (aA (aA (aC (b:=p2) (o:=0) hs hcs0 (pO (by omega) (bE (by omega) (aA (aA (aC (b:=p2) (o:=0) hs hcs1 (pO (by omega) (bE (by omega) (iS (aK (by omega) ?_)))))))))))))))
  refine M7 (Cf:=Cf) (M:=(M.round Cf).1) (hs.front (bG G Cf m (M.round Cf).1)) fun h2 hs2=>aN (aK (by omega) ?_)
  refine M7 (Cf:=Cf) (M:=(M.round Cf).1) hs2 fun h hs=>aA (aA (aC (b:=p2) (o:=0) hs hcs0 (pO (by omega) (bE (by omega) (aA (aA (aC (b:=p2) (o:=0) hs hcs1 (bE (by omega) (iS ?_)))))))))
  repeat refine cQ (by first|exact gC|exact dA|exact aA dA|exact aC (b:=p2) (o:=0) hs2 hcs0 gC|exact aC (b:=p2) (o:=0) hs2 hcs1 gC|exact pO (by omega) gC|exact bE (by omega) gC) ?_
  exact aK (by omega) (bW (bE (by omega) (ih (i+1) (N+400) _ h (by omega) (by omega) h1.all hs.to)))
theorem Wl {pv wv ov vv lv:Value} {ps:List (List Ins)} {ws os vs:List Int} {l:List Do} (hn:ps.length≤9223372036854775807) (hG:Gb G) (hg:Ob G 1 tU) (hom:A.ga G pv wv ov vv ps ws os vs) (hd:Rz G lv l) (hs:Hs G h L)
  (hk:∀h',Q (.bool true) h'):Cl Pr K 11 [.agg ⟨Ky Cf pv wv ov vv⟩,lv] h Q:=by
 refine cW (dI (cs:=Ky Cf pv wv ov vv) hs fun p2 h hs=>aBx hd (iS (aR (fun _=>uL (hk _)) (fun h4=>bW (aQ (b:=p2) (o:=0) hs (by decide) (l:=Ky Cf pv wv ov vv) rfl rfl ?_)))))
 refine m4 hn (by omega) hG hg hom hd hs (fun h hs=>Oh (eQ (uL (hk _)))) fun N M m h hC hN hA hs=>cN (bV (bW ?_))
 exact nq (S:=T7 ps ws) (cs:=Ky Cf pv wv ov vv) (L:=L) hC hG rfl rfl hk 30 0 N M h rfl (by omega) hA hs
end Go.Proofs.YtajjljbmfdboaaaGreatDoor
end
end
