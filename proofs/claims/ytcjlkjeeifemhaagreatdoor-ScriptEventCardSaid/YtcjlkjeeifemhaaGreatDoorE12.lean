/- A part of the proof. -/
import Derived.Test.YtcjlkjeeifemhaaGreatDoorE9
import Derived.Test.YtcjlkjeeifemhaaGreatDoorE8
import Derived.Test.YtcjlkjeeifemhaaGreatDoorE11
import Derived.KernelRfl
import Derived.Test.YtcjlkjeeifemhaaGreatDoorE10
import Derived.Test.YtcjlkjeeifemhaaGreatDoorTie
import Derived.Test.YtcjlkjeeifemhaaGreatDoorCards
import Derived.LaidMore
import Derived.SevenTiedAt
namespace Go.Proofs.YtcjlkjeeifemhaaGreatDoor
open Go Go.Ab
section
set_option maxRecDepth 100000
noncomputable def K:FuncId->List Value->Option bZ:=rV K0 12 (.bool true)
abbrev n_:FT:=⟨[],[],false,0,[]⟩
def Kq:List FT:=[n_,n_,n_,⟨[(2,[0,1])],[],false,12,[(3,[(0,18),(0,30),(1,18),(1,30),(5,4),(6,4),(7,4),(8,4),(9,4),(10,4),(11,4),(12,4),(13,4),(14,4),(15,4),(16,4)])]⟩,n_,n_,n_,n_,n_,⟨[(2,[0])],[],false,2,[]⟩,⟨[(2,[0,1]),(208,[0,1,5]),(420,[0,1,5])],[],false,0,[]⟩,⟨[(2,[0]),(104,[0]),(14,[0]),(122,[0,3])],[],false,0,[]⟩,n_,n_,n_,n_]
def Kk:List FT:=[n_,n_,n_,n_,n_,n_,n_,n_,n_,n_,n_,n_,n_,n_,n_,n_]
def Ko:List FT:=[n_,n_,n_,n_,n_,⟨[(2,[0]),(232,[3,6,7,8]),(3736,[3,6,7,8])],[],false,320,[]⟩,n_,n_,n_,n_,n_,n_,n_,n_,n_,n_]
def TT:FuncId->FT:=Jy [Kq,Kk,Ko]
abbrev Dd (f:FuncId) (i:Nat) (a:List Nat) (Q:Value->AH->Prop) (vs:List Value) (h:AH):Prop:=Go.Ab.D Pr K TT f i a Q vs h
theorem cW {f:FuncId} {args:List Value} {Q:Value->AH->Prop} {h:AH} (a:wC Pr K TT f args Q h):Cl Pr K f args h Q:=Go.Ab.cW a
end
end Go.Proofs.YtcjlkjeeifemhaaGreatDoor
namespace Go.Proofs.YtcjlkjeeifemhaaGreatDoor
open Go Go.Ab Go.Is Go.At Go.Sc
section
theorem wK {n:Int} (h:kD n):K 86 [I n]=some (.val (tx (Lib.itoa n))):=by
 show rV K0 12 (.bool true) 86 [I n]=_;unfold rV;rw[Kw (by simp)];show(if _ then _ else _)=_;unfold kD at h;rw[Kx h]
theorem vU {b o n c:Nat} {s:List UInt8}:K 87 [.slice (some ⟨b,o,none⟩) n c,tx s]=some (.host (qT b o n c ⟨s.toArray⟩)):=by
 show rV K0 12 (.bool true) 87 _=_;unfold rV;rw[Kw (by simp)];rfl
theorem Gk {x y:Ev} {k:Value->Prop} (j:k (.bool (decide (x=y)))) {i:Bool} (B:i=true:=by kernel_rfl):Ji i [0,0,0,0,0,0,0] .eql (.agg ⟨x.enc⟩) (.agg ⟨y.enc⟩) k:=by
 refine⟨B,_,by simp only[Gu,eM,zG,Ev.enc];rfl,?_⟩;have:((x.core==y.core)&&((x.at'==y.at')&&((x.op==y.op)&&((x.world==y.world)&&((x.word==y.word)&&((x.value==y.value)&&((x.code==y.code)&&true)))))))=decide (x=y):=by
  obtain⟨a,b,c,d,e,f,g⟩:=x;obtain⟨l,m,n,o,p,q,r⟩:=y;by_cases s:a=l<;>by_cases t:b=m<;>by_cases u:c=n<;>by_cases v:d=o<;>by_cases w:e=p<;>by_cases z:f=q<;>by_cases A:g=r<;>simp[s,t,u,v,w,z,A]
 rw[<-this] at j;exact j
theorem Gg {a:Bool} {k:Value->Prop} (b:k (.bool true)):aQ (H5 .eql (.bool a) (.bool a)) k:=⟨_,by cases a<;>rfl,b⟩
theorem zR {l:List Int} {i:Nat} {x:Int} (a:l[i]?=some x):((l.take i).map Lib.itoa).map tx++[tx (Lib.itoa x)]=((l.take (i+1)).map Lib.itoa).map tx:=by
 rw[List.take_add_one,a];simp
set_option maxRecDepth 100000
attribute [local irreducible] aQ Br Cq Co I2 zX qW Fz oD Jl zF Fy F5 yO yD zD B0 Bi E5 H5 I0 Ix Iz H0 Gu Ji Il wN Cr Bw iH copyV sP I8 Iy Iv Cp oH Ja I4 I9 mQ xM Ao Ba Cl Dj I1 vZ wR rT lC bE aZ
variable {G:Bg} {h:AH} {L L' M:List HP} {Q:Value->AH->Prop}
theorem vK (a:Q (.bool true) h):Cl Pr K 12 [] h Q:=by
 unfold Cl;exact uE (v:= .bool true) rfl a
theorem C2 {n:Int} (b:kD n) (a:Q (tx (Lib.itoa n)) h):Cl Pr K 86 [I n] h Q:=by
 unfold Cl;exact uE (wK b) a
theorem rS:∀(u:Nat),u<=9223372036854775807->∀(h:AH) (L:List HP) (Q:Value->AH->Prop),Hs G h L->(∀d,Hs G d L->Q (tx (Lib.decDigits u)) d)->Cl Pr K 11 [I u] h Q:=by
 intro u;induction u using Nat.strongRecOn with
 |_ u g=>
  intro j h L Q b e;refine cW (qQ (B4 (by omega) (bW (Ii (by omega) (by decide) (xJ (by omega) (Da (by omega) ?_))))));rw[show(48:Int)+(u:Int) % 10=((48+u % 10:Nat):Int) by omega];refine rU (c:=[.int .u8 ((48+u % 10:Nat):Int)]) rfl (xF (W:=1) (n:=1) (c:=1) b rfl rfl rfl ?_);intro a h b;refine Bj (v:=48+u % 10) (by omega) b (E0 (Hg (fun f=>bW (Hw (by omega) (by decide) (by omega) ?_)) (fun f=>?_)));rw[show(u:Int)/10=((u/10:Nat):Int) by omega];refine g (u/10) (by omega) (by omega) h L _ b.tail fun h b=>?_;have i:=iR (u:=u/10) (by omega);refine jU (by simp;omega) ?_;have:=e h b;rw[Lib.decDigits,dif_neg (by omega)] at this;exact this;have:=e h b.tail;rw[Lib.decDigits,dif_pos (by omega)] at this;rw[show u % 10=u by omega];exact this
theorem Cw:∀(u:Nat),1<=u->u<=9223372036854775808->∀(h:AH) (L:List HP) (Q:Value->AH->Prop),Hs G h L->(∀c,Hs G c L->Q (tx (45::Lib.decDigits u)) c)->Cl Pr K 11 [I (-(u:Int))] h Q:=by
 intro u;induction u using Nat.strongRecOn with
 |_ u g=>
  intro d j h L Q b e;refine cW (qQ (yC (by omega) (bW (E0 (Hg (fun f=>?_) (fun f=>?_))))));refine Ax (by omega) ?_;rw[show(0:Int) - -(u:Int)=(u:Int) by omega];refine rS u (by omega) h L _ b fun h b=>?_;have d:=iR (u:=u) (by omega);exact jU (a:=[45]) (by simp;omega) (e h b);refine F8 (by omega) ?_;refine g (u/10) (by omega) (by omega) (by omega) h L _ b fun h b=>?_;refine Fl (Ax (by omega) ?_);rw[show(0:Int) - -((u % 10:Nat):Int)=((u % 10:Nat):Int) by omega];refine rS (u % 10) (by omega) h L _ b fun h b=>?_;have d:=iR (u:=u/10) (by omega);have i:=iR (u:=u % 10) (by omega);refine jU (by simp;omega) ?_;have:=e h b;rw[Lib.decDigits,dif_neg (by omega)] at this;rw[show Lib.decDigits (u % 10)=[UInt8.ofNat (48+u % 10)] by rw[Lib.decDigits,dif_pos (by omega)]];exact this
theorem B6 {x:Int} (e:kD x) (d:Hs G h L) (a:∀b,Hs G b L->Q (tx (Lib.itoa x)) b):Cl Pr K 11 [I x] h Q:=by
 unfold kD at e;unfold Lib.itoa at a;by_cases c:x<0;rw[Kx c] at a;have:=Cw x.natAbs (by omega) (by omega) h L Q d a;rwa [show -((x.natAbs:Nat):Int)=x by omega] at this;rw[Kw c] at a;have:=rS x.toNat (by omega) h L Q d a;rwa [show((x.toNat:Nat):Int)=x by omega] at this
theorem wX {a:Option Addr} {c:Nat} {l:List Int} (r:∀v∈l,kD v) (y:0<l.length) (hle:l.length<=100) (d:Hs G h (mN 1 3 a c (l.length,l.map I)::L)) (B:∀q,Hs G q L->Q (tx (dK l)) q):
  Cl Pr K 37 [.slice a l.length c] h Q:=by
 have loop:∀(f i:Nat) (g:Option Addr) (j:Nat) (h:AH),i+f=l.length->Hs G h (mN 1 9 g j (i,((l.take i).map Lib.itoa).map tx)::mN 1 3 a c (l.length,l.map I)::L)->
   Dd 37 1 [] Q [.slice g i j,.slice a l.length c,I l.length,I i] h:=by
  intro f
  induction f with
  |zero=>
   intro i g j h A d
   obtain rfl:i=l.length:=by omega
   rw[List.take_length] at d
   have t:=mO r
   refine bW (qQ (B4 (by omega) (C4 (l:=l.map Lib.itoa) (s:=[32]) (e:=9) (fun b o=>vU) (by simp) y (by omega) ?_ d fun h d=>?_)))
   .rw[oL];show(dK l).length<=_;omega
   .rw[oL];exact B h d.tail.tail
  |succ f C=>
   intro i g j h A d
   obtain⟨x,k,D⟩:∃x,l[i]?=some x/\True:=⟨l[i],List.getElem?_eq_getElem (by omega),trivial⟩
   have p:=r x (List.mem_of_getElem? k)
   have z:(l.map I)[i]?=some (I x):=by rw[List.getElem?_map,k];rfl
   refine bW (qQ (yC (by omega) (bW (Be (a:=a) (c:=c) (e:=3) d z (C2 p (rU (c:=[tx (Lib.itoa x)]) rfl (xF (W:=1) (n:=1) (c:=1) d rfl rfl rfl fun a3 h d=>?_)))))))
   refine Gj (a:=g) (c:=j) (n:=i) (cs:=((l.take i).map Lib.itoa).map tx) (a2:=some a3) (c2:=1) (m:=1) (ns:=[tx (Lib.itoa x)]) d (by omega) fun u w h d=>?_
   rw[zR k] at d
   exact xJ (by omega) (C (i+1) u w h (by omega) d.to)
 refine cW (vM (loop l.length 0 none 0 h (by omega) ?_))
 exact C7 d
theorem tG {x:Ev} (g:∀v∈Bm x,kD v) (d:Hs G h L) (f:∀e,Hs G e L->Q (tx (fM x)) e):Cl Pr K 9 [.agg ⟨x.enc⟩] h Q:=by
 refine cW (Fb (cs:=x.enc) d fun p h d=>cE (aa p d (v:=I x.core) rfl (cE (aa p d (v:=I x.at') rfl (cE (aa p d (v:=I x.op) rfl (cE (aa p d (v:=I x.world) rfl (cE (aa p d (v:=I x.word) rfl (cE (aa p d (v:=I x.value) rfl (cE (aa p d (v:=I x.code) rfl (rU (c:=x.enc) rfl (xF (W:=1) (n:=7) (c:=7) d rfl rfl rfl fun a h d=>?_))))))))))))))));exact wX (l:=Bm x) (a:=some a) (c:=7) g (by show 0<7;omega) (by show 7<=100;omega) d fun h d=>f h d.tail
theorem D4 {a:Option Addr} {c:Nat} {w:List UInt8} {l:List Int} (j:∀v∈l,kD v) (z:w.length<=1000) (hle:l.length<=100) (d:Hs G h (mN 1 3 a c (l.length,l.map I)::L)) (q:∀m,Hs G m L->Q (tx (B8 w l)) m):
  Cl Pr K 10 [tx w,.slice a l.length c] h Q:=by
 have loop:∀(f i:Nat) (h:AH),i+f=l.length->Hs G h (mN 1 3 a c (l.length,l.map I)::L)->
   Dd 10 1 [] Q [tx (w++jR (l.take i)),.slice a l.length c,I i] h:=by
  intro f
  induction f with
  |zero=>
   intro i h p d
   obtain rfl:i=l.length:=by omega
   have r:=Sc.fU j
   rw[List.take_length]
   exact bW (vM (qQ (B4 (by omega) (jU (b:=[10]) (by simp;omega) (q h d.tail)))))
  |succ f t=>
   intro i h p d
   obtain⟨x,k,u⟩:∃x,l[i]?=some x/\True:=⟨l[i],List.getElem?_eq_getElem (by omega),trivial⟩
   have g:=j x (List.mem_of_getElem? k)
   have o:(l.map I)[i]?=some (I x):=by rw[List.getElem?_map,k];rfl
   have r:=Sc.fU (l:=l.take i) fun v s=>j v (List.mem_of_mem_take s)
   have n:=iM g
   have y:(l.take i).length<=100:=by rw[List.length_take];omega
   refine bW (vM (qQ (yC (by omega) (bW (jU (b:=[32]) (by simp;omega) (Be (a:=a) (c:=c) (e:=3) d o (B6 g d fun h d=>jU (by simp;omega) (xJ (by omega) ?_))))))))
   have e:w++jR (l.take i)++[32]++Lib.itoa x=w++jR (l.take (i+1)):=by
    rw[List.take_add_one,k];unfold jR;simp
   rw[e]
   exact t (i+1) h (by omega) d
 have:=loop l.length 0 h (by omega) d
 rw[List.take_zero,show jR []=[] from rfl,List.append_nil] at this
 exact cW this
theorem Eh {w:List UInt8} {p:Prop} (a:p):(iC (tx w) (tx w)=true)/\p:=⟨Cj,a⟩
theorem nH {x y:Ev} (g:∀v∈Bm x,kD v) (r:∀v∈Bm y,kD v) (d:Hs G h L) (j:∀s,Q (.bool true) s):Cl Pr K 3 [.agg ⟨x.enc⟩,.agg ⟨y.enc⟩] h Q:=by
 refine cW (Fb (cs:=x.enc) d fun p h d=>Fb (cs:=y.enc) d fun q h d=>ac p d (l:=x.enc) rfl rfl (tG g d fun h d=>?_));refine ac q d (l:=y.enc) rfl rfl (tG r d fun h d=>Fj d fun A h d=>?_);have u:(fM x).length<=147:=mO g;have cat:∀{k:Value->Prop},k (tx (fM x++[10]))->aQ (E5 .add (tx (fM x)) (tx [10])) k:=fun j=>jU (by simp;omega) j;have m:kD x.core:=g _ (by simp[Bm]);have f:∀v∈[x.at',x.op,x.world,x.word,x.value,x.code],kD v:=fun v w=>g v (List.mem_cons_of_mem _ w);have e:=d;refine cat (cE (aa p d (v:=I x.core) rfl (B6 m d fun z d=>?_)));refine cE (aa p d (v:=I x.at') rfl (cE (aa p d (v:=I x.op) rfl (cE (aa p d (v:=I x.world) rfl (cE (aa p d (v:=I x.word) rfl (cE (aa p d (v:=I x.value) rfl (cE (aa p d (v:=I x.code) rfl ?_)))))))))));refine rU (c:=[I x.at',I x.op,I x.world,I x.word,I x.value,I x.code]) rfl (A8 (W:=1) (i:=17) (N:=33) (D:=[]) (n:=6) (c:=6) d rfl rfl rfl rfl rfl fun a h d=>?_);have t:=iM m;refine D4 (l:=[x.at',x.op,x.world,x.word,x.value,x.code]) (a:=some a) (c:=6) f (by omega) (by show 6<=100;omega) d fun h d=>?_;rw[<-wP];refine Ei (yC rfl (Ei (ac p d (l:=x.enc) rfl rfl (ac q d (l:=y.enc) rfl rfl (Gk ?_)))));rw[show decide (fM x=fM y)=decide (x=y) from decide_eq_decide.2 (zE g r)];refine Gg (Hp (vK ?_));exact Eh (Eh (kI (cat Cj) (kI (cat Cj) (kI (cE qH) (kI (aa p e (v:=I x.at') rfl qI) (kI (cE qH) (kI (aa p e (v:=I x.op) rfl qI) (kI (cE qH) (kI (aa p e (v:=I x.world) rfl qI) (kI (cE qH) (kI (aa p e (v:=I x.word) rfl qI) (kI (cE qH) (kI (aa p e (v:=I x.value) rfl qI) (kI (cE qH) (kI (aa p e (v:=I x.code) rfl qI) (j _))))))))))))))))
end
end Go.Proofs.YtcjlkjeeifemhaaGreatDoor
namespace Go.Proofs.YtcjlkjeeifemhaaGreatDoor
open Go Go.Ab Go.Is Go.At Go.Sc Go.RowKit
section
def G5:List Value:=[.int .u64 1,.int .u64 10,.int .u64 100,.int .u64 1000,.int .u64 10000,.int .u64 100000,.int .u64 1000000,.int .u64 10000000,.int .u64 100000000,.int .u64 1000000000,.int .u64 10000000000,.int .u64 100000000000,.int .u64 1000000000000,.int .u64 10000000000000,.int .u64 100000000000000,
  .int .u64 1000000000000000,.int .u64 10000000000000000,.int .u64 100000000000000000,.int .u64 1000000000000000000,.int .u64 10000000000000000000]
def Gl (w:World):Prop:=(∃e z,w.heap[0]?=some (.cells ⟨A3⟩ e z))/\(∃e z,w.heap[1]?=some (.cells ⟨A1⟩ e z))/\(∃e z,w.heap[4]?=some (.cells ⟨G5⟩ e z))/\12<=w.heap.size
theorem Et {w:World} {c d:TypeId} {z0 g:Nat×Nat} (j:w.heap[0]?=some (.cells ⟨A3⟩ c z0)) (k:w.heap[1]?=some (.cells ⟨A1⟩ d g)):Hk Pr 12 (Fv c z0 d g) w:=by
 have plain:∀(l:List Value) (e:TypeId) (z:Nat×Nat) (b:Nat),dY l=true->w.heap[b]?=some (.cells ⟨l⟩ e z)->∃f,w.heap[b]?=some f/\∀ρ,gD Pr ρ (0,0) (.cells l e z true) f:=fun l e z b m h=>
  ⟨_,h,fun ρ=>⟨⟨l⟩,rfl,by rw[List.drop_zero,List.take_of_length_le (by simp)];exact gX _ m,by simp,fun _=>⟨rfl,rfl,rfl⟩⟩⟩
 intro i o n a;unfold Fv at a;split at a;rename_i e;subst e;cases a;exact plain _ _ _ 0 (by rfl) j;split at a;rename_i e;subst e;cases a;exact plain _ _ _ 1 (by rfl) k;cases a
theorem Dz {B:Nat} (hB:12<=B) {w w':World} (h:Below B w w'):Gl w->Gl w':=fun⟨⟨e,z,d⟩,⟨b,i,f⟩,⟨c,z4,g⟩,a⟩=>
 ⟨⟨e,z,(h.block 0 (by omega)).trans d⟩,⟨b,i,(h.block 1 (by omega)).trans f⟩,⟨c,z4,(h.block 4 (by omega)).trans g⟩,Nat.le_trans a h.size⟩
theorem G0:Tryz.prog.globalNamed "internal/strconv.uint64pow10"=some 4:=by kernel_rfl
theorem wJ {w:World} {n:Nat} {os:Array Obj}:Below w.heap.size w (Go.Sort.grow (w.drewN n) os):=⟨rfl,rfl,rfl,by
 show w.heap.size<=(w.heap++os).size;simp,fun k a=>by
 show(w.heap++os)[k]?=w.heap[k]?;rw[Array.getElem?_append_left a]⟩
theorem oV {w:World}:Below w.heap.size w w:=⟨rfl,rfl,rfl,Nat.le_refl _,fun _ _=>rfl⟩
noncomputable def Ic (B:Nat) (hB:12<=B):Ctx Pr B K0 where
 G:=Gl
 rJ:=fun w y h=>Dz hB h
 call:=fun f i v w a O=>by
  unfold K0 at a;split at a;rename_i n;split at a;rename_i J;cases a;refine⟨rfl,gN rfl ?_⟩;obtain⟨_,_,⟨U,z2,m⟩,_⟩:=O;refine(Tryz.strconv_Itoa n J.1 J.2 w ?_).mono fun e y ⟨p,k,W,r⟩=>⟨p,by rw[r];exact wJ⟩;simp only[Lib.TabIs,World.var?,G0,Option.bind_some,m];rfl;cases a;rename_i s c;cases a;exact⟨rfl,gN rfl ((Tryz.strings_Count_one s c w).mono fun e y ⟨p,r⟩=>⟨p,by rw[r];exact oV⟩)⟩;rename_i s c;cases a;exact⟨rfl,gN rfl ((Tryz.stringslite_Index_one s c w).mono fun e y ⟨p,r⟩=>⟨p,by rw[r];exact oV⟩)⟩;rename_i s;split at a;rename_i I;split at a;rename_i v R;cases a;exact⟨rfl,gN rfl ((Tryz.strconv_Atoi s v I R w).mono fun e y ⟨p,t,r⟩=>⟨p,by rw[r];exact⟨rfl,rfl,rfl,by rw[Lib.bytesWorld_size];omega,fun j P=>Lib.bytesWorld_at_old w _ t j P⟩⟩)⟩;cases a;cases a;cases a;cases a;cases a;cases a
 fwd:=fun f i g T a=>by
  unfold K0 at a;split at a;split at a<;>cases a;cases a;cases a;split at a;split at a<;>cases a;cases a;cases a;cases a;cases a;cases a
 host:=fun f i F a h v V hF ρ w z H _ E=>by
  unfold K0 at a;split at a;split at a<;>cases a;cases a;cases a;split at a;split at a<;>cases a;cases a;cases a;exact zN (fun bk o c S sep w d m x C D=>Tryz.strings_Join bk o c S sep w d m (by omega) C (by unfold nU at D;omega)) hF H E;cases a;exact zS (t:=141) (fun b w d m x=>Any.Builder_copyCheck_fresh Tryz.yQ Tryz.hI b w d m x) (fun b w d=>Any.Builder_copyCheck_used Tryz.yQ Tryz.hI b w d) hF H E;cases a;exact zO (t:=141) (u:=5) (fun b w d=>Tryz.wY Tryz.xQ Tryz.fA b w d) (fun b g q A cells l w d m x C D K N=>Tryz.zH Tryz.xQ Tryz.fA b g q A cells l w d m x C D K N) hF H E;cases a
theorem tO {w:World} (f:Gl w):Calls Pr 12 #[] w fun e m=>e= .returned (.bool true)/\Below w.heap.size w m:=by
 have b:=f;obtain⟨⟨c,z0,j⟩,⟨d,i,k⟩,_,a⟩:=f;exact uP rfl (tB (tI c z0 d i)) (Ic w.heap.size a) b (sW (gl:=Fv c z0 d i) (rs:=[]) (g:=12) (by rw[rA];exact Nat.le_refl _) a (Et j k) (fun r l=>by cases l))
noncomputable def ctx (B:Nat) (hB:12<=B):Ctx Pr B K:=(Ic B hB).add 12 (.bool true) rfl fun _w a=>tO a
theorem own:ownKnob Tryz.prog.godebug=none:=by kernel_rfl
theorem laidOut:laidOutB Tryz.prog=true:=by kernel_rfl
theorem Jd:Tryz.prog.globalNamed "donjon/isa.ops"=some 0:=by kernel_rfl
theorem J8:Tryz.prog.globalNamed "donjon/place.limits"=some 1:=by kernel_rfl
theorem Jc:Tryz.prog.globalNamed "math/bits.deBruijn64tab"=some 11:=by kernel_rfl
theorem Jk:(Tryz.prog.globals[0]?).map (·.type)=some 252:=by kernel_rfl
theorem Jr:(Tryz.prog.globals[1]?).map (·.type)=some 282:=by kernel_rfl
theorem Jh:(Tryz.prog.globals[4]?).map (·.type)=some 498:=by kernel_rfl
theorem J4:(Tryz.prog.globals[11]?).map (·.type)=some 543:=by kernel_rfl
theorem H3 {W:World} {l:List (String×DataW Unit)} (a:(l.all fun x=>x.2.handleName?.isNone)=true) (h:laidMetH Tryz.prog l W) (m0:("donjon/isa.ops",Rows.laid_donjon_isa_ops)∈l) (m1:("donjon/place.limits",Rows.laid_donjon_place_limits)∈l)
  (m4:("internal/strconv.uint64pow10",Rows.laid_internal_strconv_uint64pow10)∈l) (m11:("math/bits.deBruijn64tab",Rows.laid_math_bits_deBruijn64tab)∈l):Gl W:=by
 obtain⟨b,z0,e⟩:=gW (l:=A3) 8 a h m0 Jd Jk (by kernel_rfl)
 obtain⟨c,j,f⟩:=gW (l:=A1) 8 a h m1 J8 Jr (by kernel_rfl)
 obtain⟨d,z4,g⟩:=gW (l:=G5) 8 a h m4 G0 Jh (by kernel_rfl)
 obtain⟨k,m,i⟩:=gW (l:=((lG Tryz.prog 8 543 (Rows.laid_math_bits_deBruijn64tab (H:=Unit))).getD [])) 8 a h m11 Jc J4 (by kernel_rfl)
 exact⟨⟨b,z0,e⟩,⟨c,j,f⟩,⟨d,z4,g⟩,(Array.getElem?_eq_some_iff.1 i).1⟩
theorem yT {W:World} (k:Gl W) {f:FuncId} {args:List Value} (t:dY args=true) (i:∀(G:Bg) (h:AH),Hs G h []->Cl Pr K f args h fun v _=>v= .bool true):
  Calls Pr f ⟨args⟩ W fun e l=>e= .returned (.bool true)/\Below W.heap.size W l:=by
 have g:=k
 obtain⟨⟨c,z0,n⟩,⟨d,j,p⟩,_,b⟩:=k
 have reads:Reads Pr (12+([]:List OB).length) (qE 12 (Fv c z0 d j) []) (qL 12 []) W:=sW (by rw[rA];exact Nat.le_refl _) b (Et n p) (fun r w=>by cases w)
 have ok:=i ⟨12,qE 12 (Fv c z0 d j) []⟩ (Go.Ab.start 12 (qE 12 (Fv c z0 d j) [])) Bu
 have:=tC (ctx W.heap.size b) g reads (args:=args) (args':=args) (gX _ t) ok
 intro m
 obtain⟨e,y,fr,⟨ρ',o,z,A,s,a,u,_,q⟩,x⟩:=this m
 rw[u] at a
 simp only[aA] at a
 exact⟨e,y,fr,⟨by rw[s,a],q⟩,x⟩
theorem Ea {l:List Value} (f:Flat [some .i64,some .i64,some .i64,some .i64,some .i64,some .i64,some .i64] l):∃x:Ev,l=x.enc/\∀v∈Bm x,kD v:=by
 obtain⟨b,m1,f1,g,g1⟩:=dZ f;obtain⟨c,m2,f2,i,g2⟩:=dZ g1;obtain⟨a3,m3,f3,j,g3⟩:=dZ g2;obtain⟨a4,m4,f4,k,g4⟩:=dZ g3;obtain⟨a5,m5,f5,m,g5⟩:=dZ g4;obtain⟨d,m6,f6,n,g6⟩:=dZ g5;obtain⟨e,m7,f7,o,g7⟩:=dZ g6;have f8:=Bc g7;subst f8 f7 f6 f5 f4 f3 f2 f1;refine⟨⟨b,c,a3,a4,a5,d,e⟩,rfl,fun v a=>?_⟩;simp only[Bm,List.mem_cons,List.not_mem_nil,or_false] at a;rcases a with rfl|rfl|rfl|rfl|rfl|rfl|rfl;exact wf_i64 g;exact wf_i64 i;exact wf_i64 j;exact wf_i64 k;exact wf_i64 m;exact wf_i64 n;exact wf_i64 o
theorem By:mM Tryz.prog 8 24=some [some .i64,some .i64,some .i64,some .i64,some .i64,some .i64,some .i64]:=by kernel_rfl
end
end Go.Proofs.YtcjlkjeeifemhaaGreatDoor
