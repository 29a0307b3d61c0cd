/- A part of the proof. -/
import Derived.Test.YthgemaaghgpncaaDoorB15
import Derived.Test.YthgemaaghgpncaaDoorB16
import Derived.Test.YthgemaaghgpncaaDoorB14
import Derived.Test.YthgemaaghgpncaaDoorB9
import Derived.Test.YthgemaaghgpncaaDoorTie
import Derived.Test.YthgemaaghgpncaaDoorCards
import Derived.LaidMore
import Derived.SevenTiedAt
import Derived.WalkKit
import Derived.ProofKit
import Derived.OpenShut
import Derived.ChangeOld
import Derived.Below
section
namespace Go.Proofs.YthgemaaghgpncaaDoor
open Go Go.Ab Go.Hm Go.Ct Go.Pc Go.RowKit
def Gl (w:World):Prop:=(∃e z,w.heap[0]?=some (.cells ⟨eJ⟩ e z))∧(∃e z,w.heap[1]?=some (.cells ⟨cK⟩ e z))
theorem Wi {w:World} {e0 e1:TypeId} {z0 z1:Nat×Nat} (h0:w.heap[0]?=some (.cells ⟨eJ⟩ e0 z0)) (h1:w.heap[1]?=some (.cells ⟨cK⟩ e1 z1)):aq Pr 2 (Re e0 z0 e1 z1) w:=by
 intro i o hi ho
 unfold Re at ho
 split at ho
 ·rename_i e;subst e
  cases ho
  refine⟨_,h0,fun ρ=>⟨⟨eJ⟩,rfl,?_,by simp,fun _=>⟨rfl,rfl⟩⟩⟩
  rw[List.drop_zero,List.take_of_length_le (by simp)]
  exact mI _ (by rfl)
 ·split at ho
  ·rename_i e;subst e
   cases ho
   refine⟨_,h1,fun ρ=>⟨⟨cK⟩,rfl,?_,by simp,fun _=>⟨rfl,rfl⟩⟩⟩
   rw[List.drop_zero,List.take_of_length_le (by simp)]
   exact mI _ (by rfl)
  ·cases ho
theorem Ud {B:Nat} (hB:2≤B) {w w':World} (h:Below B w w'):Gl w→Gl w':=fun⟨⟨e,z,h0⟩,e',z',h1⟩=>
 ⟨⟨e,z,(h.block 0 (by omega)).trans h0⟩,e',z',(h.block 1 (by omega)).trans h1⟩
noncomputable def aa (B:Nat) (hB:2≤B):Ctx Pr B K0 where
 G:=Gl
 yO:=fun w w' h=>Ud hB h
 call:=fun f args v w hk=>by
  unfold K0 at hk
  split at hk<;>cases hk
 host:=fun f args F hk=>by
  unfold K0 at hk
  split at hk<;>cases hk
 fwd:=fun f args g bs hk ρ args' w ha hg=>by
  unfold K0 at hk
  split at hk
  ·rename_i v x l
   cases hk
   simp only[aH] at ha
   obtain⟨_,_,hv,⟨x',_,hx,⟨l',_,hl,rfl,rfl⟩,rfl⟩,rfl⟩:=ha
   simp only[aB] at hv
   obtain⟨v',hv,rfl⟩:=hv
   refine⟨[v',x',l'],(w.alloc (.cells #[.int .i64 0] 3)).alloc (.cells #[.bool false] 4),aH.cons hv (aH.cons hx (aH.cons hl rfl)),((Below.refl _ _).alloc (Nat.le_refl _) _).alloc (by simp) _,fun a S hok hc=>?_⟩
   unfold Bn at hok
   split at hok
   ·rename_i n b
    have hsz:((w.alloc (.cells #[.int .i64 0] 3)).alloc (.cells #[.bool false] 4)).heap.size=w.heap.size+2:=by simp
    rw[hsz]
    exact Kj v' x' l' w S n b hc
   ·cases hok
  ·cases hk
theorem Lx {w:World} (h:Gl w):2≤w.heap.size:=by
 obtain⟨_,e,z,h1⟩:=h
 exact(Array.getElem?_eq_some_iff.1 h1).1
theorem G2 {w:World} (hg:Gl w):Calls Pr 5 #[] w fun e w'=>e= .returned (.bool true)∧Below w.heap.size w w':=by
 have hg':=hg
 have h2:=Lx hg
 obtain⟨⟨e0,z0,h0⟩,e1,z1,h1⟩:=hg
 exact Ha rfl (Ia (Ov e0 z0 e1 z1)) (aa w.heap.size h2) hg' (Gh (gl:=Re e0 z0 e1 z1) (rs:=[]) (g:=2) (by rw[I8];exact Nat.le_refl _) h2 (Wi h0 h1) (fun r hr=>by cases hr))
noncomputable def ctx (B:Nat) (hB:2≤B):Ctx Pr B (Jn K0 5 (.bool true)):=(aa B hB).add 5 (.bool true) rfl fun _ hg=>G2 hg
theorem own:ownKnob Tryd.prog.godebug=none:=by kernel_rfl
theorem laidOut:laidOutB Tryd.prog=true:=by kernel_rfl
theorem e9:Tryd.prog.globalNamed "donjon/place.limits"=some 0:=by kernel_rfl
theorem Z3:Tryd.prog.globalNamed "donjon/moesi.rows"=some 1:=by kernel_rfl
theorem e6:(Tryd.prog.globals[0]?).map (·.type)=some 141:=by kernel_rfl
theorem cb:(Tryd.prog.globals[1]?).map (·.type)=some 145:=by kernel_rfl
theorem Wc {W:World} {l:List (String×DataW Unit)} (hp:(l.all fun x=>x.2.handleName?.isNone)=true) (h:laidMetH Tryd.prog l W) (m0:("donjon/place.limits",Rows.laid_donjon_place_limits)∈l)
  (m1:("donjon/moesi.rows",Rows.laid_donjon_moesi_rows)∈l):Gl W:=by
 obtain⟨e0,z0,h0⟩:=By (l:=eJ) 8 hp h m0 e9 e6 (by kernel_rfl)
 obtain⟨e1,z1,h1⟩:=By (l:=cK) 8 hp h m1 Z3 cb (by kernel_rfl)
 exact⟨⟨e0,z0,h0⟩,⟨e1,z1,h1⟩⟩
theorem Mf {P:Program} {H:Type} {enc:TypeId×Value→H} {W:World} {t e:TypeId} {a:Option Addr} {len cap:Nat} {d:DataW H} {p:List MemPlace} (ht:P.underlying t=some (.slice e)) (h:DataW.Trod enc P W 0 (fun _=>true) true t (.slice a len cap) d p):len≤maxLen:=by
 obtain⟨fuel,hf⟩:=h
 rcases DataW.trod_slice ht hf with⟨h1,_⟩|⟨a',l',c',elems,rest,m,_,h1,_,hb,hl,hm,_⟩
 ·simp[Value.cells] at h1
  omega
 ·simp[Value.cells] at h1
  obtain⟨_,rfl,rfl⟩:=h1
  omega
theorem Nu (ρ:Nat→Option (Nat×(Nat×Nat))):∀(pre:List Value),iK pre=true→∀{t v:Value} {post:List Value},iK post=true→aB ρ t v→aH ρ (pre++t::post) (pre++v::post):=by
 intro pre
 induction pre with
 |nil=>intro _ t v post hp hv;exact aH.cons hv (mI _ hp)
 |cons x pre ih=>
  intro h t v post hp hv
  simp only[iK,Bool.and_eq_true] at h
  exact aH.cons (eI _ h.1) (ih h.2 hp hv)
theorem iz:K=Jn K0 5 (.bool true):=rfl
def Tx:List (Option IntKind):=[some .i64,some .i64,some .i64,some .i64]
theorem Iu:nV Tryd.prog 8 31=some Tx:=by kernel_rfl
theorem Dq:Tryd.prog.cellsOf 31=Tx.length:=by kernel_rfl
theorem Pv:nV Tryd.prog 8 25=some [some .i64]:=by kernel_rfl
theorem Vk {l:List Value} (h0:Flat Tx l):∃x:kL,l=x.enc∧True:=by
 obtain⟨a,l1,e1,h1⟩:=lS h0
 obtain⟨b,l2,e2,h2⟩:=lS h1
 obtain⟨c,l3,e3,h3⟩:=lS h2
 obtain⟨d,l4,e4,h4⟩:=lS h3
 have e5:=Bq h4
 subst e5 e4 e3 e2 e1
 exact⟨⟨a,b,c,d⟩,rfl,trivial⟩
theorem Tc {l:List Value} (h0:Flat [some .i64] l):∃x:Int,l=[I x]:=by
 obtain⟨a,l1,e1,h1⟩:=lS h0
 have e2:=Bq h1
 subst e2 e1
 exact⟨a,rfl⟩
theorem B3 {W:World} (hL:Gl W) {a:Option Addr} {len cap:Nat} (hrow:yR Tx W a len cap) {f:FuncId} {pre post:List Value} (hpre:iK pre=true) (hpost:iK post=true)
  (hok:∀(G:Bg) (h:AH) (t:Value) (l:List kL),l.length=len→Ob G 0 eJ→Ob G 1 cK→K4 G t l→Hs G h []→Cl Pr K f (pre++t::post) h fun v _=>v= .bool true):
  Calls Pr f ⟨pre++ .slice a len cap::post⟩ W fun e W'=>e= .returned (.bool true)∧Below W.heap.size W W':=by
 obtain⟨r,t,hr,hv,at',hflat,hold⟩:=Tt Pr hrow
 have hL':=hL
 have h2:=Lx hL
 obtain⟨⟨e0,z0,h0⟩,e1,z1,h1⟩:=hL
 have reads:Reads Pr (2+[r].length) (qZ 2 (Re e0 z0 e1 z1) [r]) (xQ 2 [r]) W:=Gh (by rw[I8];exact Nat.le_refl _) h2 (Wi h0 h1) (fun x hx=>by rw[List.mem_singleton.1 hx];exact hr)
 obtain⟨l,hl,_,kl⟩:=Kh (W:=4) (f:=kL.enc) (R:=fun _=>True) (fun i hi=>Vk (hflat i hi))
 have hO:=hold ⟨3,qZ 2 (Re e0 z0 e1 z1) [r]⟩ 2 (by show 2<3;omega) (Q3 (g:=2) (i:=0) (gl:=Re e0 z0 e1 z1) (rs:=[r]) rfl)
 have ok:=hok ⟨3,qZ 2 (Re e0 z0 e1 z1) [r]⟩ (Go.Ab.start 3 (qZ 2 (Re e0 z0 e1 z1) [r])) (t 2) l hl ⟨by show 0<3;omega,e0,z0,true,(Jf (g:=2) (i:=0) (gl:=Re e0 z0 e1 z1) (rs:=[r]) (by omega)).trans rfl⟩ ⟨by show 1<3;omega,e1,z1,true,(Jf (g:=2) (i:=1) (gl:=Re e0 z0 e1 z1) (rs:=[r]) (by omega)).trans rfl⟩ (kl _ _ hO) Qg
 rw[iz] at ok
 have:=Iw (ctx W.heap.size h2) hL' reads (args:=pre++t 2::post) (args':=pre++ .slice a len cap::post) (Nu _ pre hpre hpost (hv _ 2 (Q2 (g:=2) (i:=0) (rs:=[r]) rfl))) ok
 intro cs
 obtain⟨e,w',fr,⟨ρ',o,h',v',he,hv',hq,_,hb⟩,hx⟩:=this cs
 rw[hq] at hv'
 simp only[aB] at hv'
 exact⟨e,w',fr,⟨by rw[he,hv'],hb⟩,hx⟩
theorem Hp:nV Tryd.prog 8 22=some [some .i64,some .i64]:=by kernel_rfl
theorem Mx {l:List Value} (h0:Flat [some .i64,some .i64] l):∃a b:Int,l=[I a,I b]:=by
 obtain⟨a,l1,e1,h1⟩:=lS h0
 obtain⟨b,l2,e2,h2⟩:=lS h1
 have e3:=Bq h2
 subst e3 e2 e1
 exact⟨a,b,rfl⟩
end Go.Proofs.YthgemaaghgpncaaDoor
end
