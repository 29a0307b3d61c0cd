/- A part of the proof. -/
import Derived.Test.YtcjlkjeeifemhaaGreatDoorB8
import Derived.Test.YtcjlkjeeifemhaaGreatDoorB7
import Derived.Lib.ItoaNum
import Derived.Lib.Bytes
import Derived.Lib.AtoiAll
import Derived.Lib.Bytealg
import Derived.Lib.Join
section
namespace Go.Ab
noncomputable section
variable {P:Program} {K:FuncId->List Value->Option dU}
theorem Kj {f:FuncId}:∀p:List Nat,Good P f (ctx P f p).2
 |[]=>trivial
 |b::p=>by
  have g:=Kj (f:=f) p;have a:∀c,ctx P f (c::p)=gZ c p (ctx P f p):=fun _=>rfl;rw[a];generalize j:ctx P f p=x at g a;obtain⟨c,k⟩:=x;rcases b with _|_|b<;>cases c<;>simp_all [gZ,Good]
def D (P:Program) (K:FuncId->List Value->Option dU) (T:FuncId->FT) (f:FuncId) (i:Nat) (a:List Nat) (Q:Value->AH->Prop) (vs:List Value) (h:AH):Prop:=la P K (T f) f none (Nh P f Q) i a vs h
def R (P:Program) (K:FuncId->List Value->Option dU) (T:FuncId->FT) (f:FuncId) (i:Nat) (l:Nat) (Q:Value->AH->Prop) (vs:List Value) (h:AH):Prop:=la P K (T f) f (some l) (vC l Q) i [] vs h
def fW (P:Program) (f:FuncId) (q:Nat->Code->Prop):Prop:=match P.funcs[f]? with
 |some ⟨_,_,_,_,_,_,n,_,some c,_,_,_,_,_,_,_⟩=>q n c
 |_=>hF
theorem Y5 {f:FuncId} {q:Nat->Code->Prop} (h:fW P f q):∃a c,P.funcs[f]?=some a/\a.body=some c/\lg P f=a.ntmps/\zA P f=some c/\q a.ntmps c:=by
 unfold fW at h;split at h;rename_i b;exact⟨_,_,b,rfl,by simp only[lg,b,Option.elim_some],by simp only[zA,b,Option.bind_some],h⟩;cases h
def Nx (m:Nat):List Nat->List Value->Ek->(Ek->Prop)->Prop
 |[],[],a,q=>q a
 |t::b,v::c,a,q=>(match Nat.blt t m with
  |true=>Nx m b c ((t,v,.un)::a) q
  |false=>hF)
 |_,_,_,_=>hF
theorem Fj {m:Nat}:∀{lv:List Nat} {vs:List Value} {a:Ek} {env:List Value} {q:Ek->Prop},cK a env->env.length=m->Nx m lv vs a q->∃c,cK c ((lv.zip vs).foldl (fun t (p,v)=>t.set p v) env)/\((lv.zip vs).foldl (fun t (p,v)=>t.set p v) env).length=m/\lv.length=vs.length/\q c
 |[],[],a,env,q,g,f,b=>⟨a,g,f,rfl,b⟩
 |t::lv,v::vs,a,env,q,g,f,b=>by
  unfold Nx at b;split at b;rename_i e;have y:t<m:=Nat.le_of_ble_eq_true e;obtain⟨c,j,o,r,u⟩:=Fj (g.cons (k:= .un) (v:=v) (f.symm▸y) (fun _ e=>by cases e) (fun e=>by cases e)) (by simpa using f) b;exact⟨c,j,o,by simp[r],u⟩;cases b
 |[],_::_,_,_,_,_,_,b=>b.elim
 |_::_,[],_,_,_,_,_,b=>b.elim
theorem T5 {env:List Value} {t:Nat} {v:Value} (h:∀u,env[t]?=some u->u=v):env.set t v=env:=by
 refine List.ext_getElem? fun i=>?_;rw[List.getElem?_set];by_cases e:t=i;subst e;rw[tu rfl];cases he:env[t]? with
 |none=>rw[tt (by simpa using he)]
 |some u=>rw[tu (List.getElem?_eq_some_iff.1 he).1,h u he]
 rw[tt e]
theorem Ah {e:Nat->Value} {m:Nat}:∀{lv:List Nat} {vs:List Value},lv.map e=vs->(lv.zip vs).foldl (fun t (p,v)=>t.set p v) ((List.range m).map e)=(List.range m).map e
 |[],_,_=>rfl
 |t::lv,vs,h=>by
  subst h;rw[List.map_cons,List.zip_cons_cons,List.foldl_cons];show List.foldl _ (((List.range m).map e).set t (e t)) _=_;rw[T5,Ah rfl];intro u a;simp only[List.getElem?_map] at a;rcases Nat.lt_or_ge t m with b|b;rw[List.getElem?_range b] at a;cases a;rfl;rw[List.getElem?_eq_none (by simpa using b)] at a;cases a
theorem cK.nil {env:List Value}:cK [] env:=fun _ _ _ h=>by cases h
def wD (P:Program) (K:FuncId->List Value->Option dU) (T:FuncId->FT) (f:FuncId) (i:Nat) (b:List Nat) (Q:Value->AH->Prop) (vs:List Value) (h:AH):Prop:=match(T f).L[i]? with
 |some (num,g)=>ah (yD num).reverse fun p=>(match ctx P f p with
  |(c,k)=>fW P f fun m _=>Nx m g vs [] fun a=>wT P K (fun b a k h=>wE (T f) a k fun i vs=>D P K T f i b Q vs h) (Zj P f (T f).hr Q) (T f) f m none 200 b a (.code p c::k) h)
 |none=>hF
theorem bW {f:FuncId} {T:FuncId->FT} {i:Nat} {j:List Nat} {Q:Value->AH->Prop} {vs:List Value} {h:AH} (b:wD P K T f i j Q vs h):D P K T f i j Q vs h:=by
 unfold wD at b;split at b;rename_i num B z;have b:=Az b;generalize p:ctx P f (yD num).reverse=x at b;obtain⟨c,k⟩:=x;obtain⟨v,_,_,_,u,_,b⟩:=Y5 b;unfold D la;simp only[z,Option.getD_some,p];intro e y;rw[u];obtain⟨a,r,t,_,b⟩:=Fj (env:=(List.range v.ntmps).map e) cK.nil (by simp) b;rw[Ah y] at r t;have m:=Kj (P:=P) (f:=f) (yD num).reverse;rw[p] at m;exact Zb (fun j a g k h o A m hE=>Xn o (A.trans u.symm) m hE) (fun B j a g h o hF=>Uw o hF) 200 (k:= .code (yD num).reverse c::k) r t ⟨p,m⟩ b;cases b
def tm (P:Program) (K:FuncId->List Value->Option dU) (T:FuncId->FT) (f:FuncId) (i:Nat) (l:Nat) (Q:Value->AH->Prop) (vs:List Value) (h:AH):Prop:=match(T f).L[i]? with
 |some (num,g)=>ah (yD num).reverse fun p=>(match ctx P f p with
  |(c,k)=>fW P f fun m _=>Nx m g vs [] fun a=>wT P K (fun b a k h=>(match b with
   |[]=>wE (T f) a k fun i vs=>R P K T f i l Q vs h
   |_=>hF)) (fun g b _ h=>Gd l Q g b [] h) (T f) f m (some l) 200 [] a (.code p c::k) h)
 |none=>hF
theorem S9 {f:FuncId} {T:FuncId->FT} {l:Nat} {Q:Value->AH->Prop} {m:Nat} (o:lg P f=m):∀c a b k h,cK a b->b.length=m->Good P f k->(match c with
   |[]=>wE (T f) a k fun i r=>R P K T f i l Q r h
   |_=>False)->Ok P K (.todo f (some l) c b (uX k)) h (vC l Q):=by
 intro c a b k h g p j hE
 split at hE
 .exact Xn g (p.trans o.symm) j hE
 .cases hE
def Yn:Nat->List Value->Ek->(Ek->Prop)->Prop
 |_,[],a,q=>q a
 |i,v::l,a,q=>nK (i+1) fun j=>Yn j l ((i,v,.un)::a) q
theorem cK.add {a:Ek} {env:List Value} (c:cK a env) {d:Nat} {v:Value} (f:env[d]?=some v):cK ((d,v,.un)::a) env:=by
 intro t u j b;unfold Ek.lk at b;split at b;rename_i e;have:=Nat.eq_of_beq_eq_true e;subst this;cases b;exact⟨f,fun x e=>(by cases e),fun e=>(by cases e)⟩;exact c t u j b
theorem Nz {env:List Value}:∀{l:List Value} {i:Nat} {a:Ek} {q:Ek->Prop},cK a env->(∀j v,l[j]?=some v->env[i+j]?=some v)->Yn i l a q->∃f,cK f env/\q f
 |[],_,a,_,b,_,c=>⟨a,b,c⟩
 |v::l,i,a,q,b,g,c=>Nz (l:=l) (b.add (g 0 v rfl)) (fun j u k=>by have:=g (j+1) u (by simpa using k);rwa [show i+1+j=i+(j+1) by omega]) (Qg c)
def Rk (n m:Nat):List Nat->Ek->(Ek->Prop)->Prop
 |[],a,q=>hP (q a)
 |t::b,a,q=>(match Nat.ble n t with
  |true=>(match Nat.blt t m with
   |true=>Rk n m b ((t,undef,.un)::a) q
   |false=>hF)
  |false=>Rk n m b a q)
theorem Ff {args:List Value} {m:Nat}:∀{lv:List Nat} {a:Ek} {q:Ek->Prop},cK a (args++List.replicate (m - args.length) undef)->Rk args.length m lv a q->∃g,cK g (args++List.replicate (m - args.length) undef)/\q g
 |[],a,_,c,b=>⟨a,c,b⟩
 |t::lv,a,q,c,b=>by
  unfold Rk at b;split at b;rename_i f;have f:=Nat.le_of_ble_eq_true f;split at b;rename_i j;have j:t<m:=Nat.le_of_ble_eq_true j;refine Ff (c.add ?_) b;rw[List.getElem?_append_right f,List.getElem?_replicate,aae];cases b;exact Ff c b
def wC (P:Program) (K:FuncId->List Value->Option dU) (T:FuncId->FT) (f:FuncId) (args:List Value) (Q:Value->AH->Prop) (h:AH):Prop:=match K f args with
 |none=>fW P f fun m c=>(match Nat.ble args.length m with
  |true=>Yn 0 args [] fun a=>nK args.length fun n=>Rk n m (((T f).L[0]?).getD (0,[])).2 a fun a=>wT P K (fun b a k h=>wE (T f) a k fun i g=>D P K T f i b Q g h) (Zj P f (T f).hr Q) (T f) f m none 200 [] a [.code [] c] h
  |false=>hF)
 |some _=>hF
theorem cW {f:FuncId} {T:FuncId->FT} {args:List Value} {Q:Value->AH->Prop} {h:AH} (b:wC P K T f args Q h):Cl P K f args h Q:=by
 unfold wC at b;split at b;rename_i y;obtain⟨r,c,A,z,D,p,b⟩:=Y5 b;refine Oe A z y ?_;split at b;rename_i hle;have hle:args.length<=r.ntmps:=Nat.le_of_ble_eq_true hle;obtain⟨a,m,b⟩:=Nz (env:=args++List.replicate (r.ntmps - args.length) undef) cK.nil (fun j v t=>by
  rw[Nat.zero_add,List.getElem?_append_left (List.getElem?_eq_some_iff.1 t).1];exact t) b
 obtain⟨a,m,b⟩:=Ff m (Qg b);exact Zb (fun u a g k h o E B hE=>Xn o (E.trans D.symm) B hE) (fun I u a g h o hF=>Uw o hF) 200 (k:=[.code [] c]) m (by simp;omega) ⟨by simp only[ctx,p,Option.getD_some],trivial⟩ b;cases b;cases b
def ng (P:Program) (K:FuncId->List Value->Option dU) (T:FuncId->FT) (f:FuncId) (num m:Nat) (lv:List Nat) (vs:List Value) (l:Nat) (args:List Value) (Q:Value->AH->Prop) (h:AH):Prop:=ah (yD num).reverse fun p=>(match ctx P f p with
 |(.rangeFunc _ o c b,_)=>fW P f fun j _=>(match Nat.beq j m with
  |true=>Nx m lv vs [] fun a=>Nx m o.toList args a fun a=>wT P K (fun g a k h=>(match g with
   |[]=>wE (T f) a k fun i vs=>R P K T f i l Q vs h
   |_=>hF)) (fun lv g _ h=>Gd l Q lv g [] h) (T f) f m (some l) 200 [] a [.code (0::p) c,.beginRound,.code (1::p) b] h
  |false=>hF)
 |_=>hF)
theorem rW {f:FuncId} {T:FuncId->FT} {num m l d:Nat} {lv:List Nat} {vs args:List Value} {e:Nat->Value} {st:LoopState} {pd:Option Code} {Q:Value->AH->Prop} {h:AH} (u:h.get l=some (lp P f (yD num) m e d st pd)) (z:List.map e lv=vs)
  (b:ng P K T f num m lv vs l args Q h):yC P K (.func (.yield l) #[] #[]) args h Q:=by
 unfold ng at b
 have b:=Az b
 split at b
 .rename_i v D j c k t;obtain⟨I,_,_,_,B,_,b⟩:=Y5 b;split at b
  .rename_i r;have r:=Nat.eq_of_beq_eq_true r;obtain⟨a,o,p,_,b⟩:=Fj (env:=(List.range m).map e) cK.nil (by simp) b;rw[Ah z] at o p;obtain⟨a,o,p,A,b⟩:=Fj o p b;have y:cd P f (yD num)= .rangeFunc v D j c:=by
    have:=Gx (P:=P) (f:=f) (yD num).reverse;rw[t,List.reverse_reverse] at this;exact this.symm
   simp only[lp,y,iv] at u
   refine Rq (T7 u (by simpa using A.symm) ?_)
   exact Zb (S9 (B.trans r)) (fun lv E a g h J hF=>by have:=E7 (env:=g) hF;exact this) 200 (k:=[.code (0::(yD num).reverse) j,.beginRound,.code (1::(yD num).reverse) c]) o p
    ⟨by simp only[ctx,t,gZ],by simp only[ctx,t,gZ],trivial⟩ b
  .cases b
 .cases b
def nz (P:Program) (K:FuncId->List Value->Option dU) (T:FuncId->FT) (f:FuncId) (args:List Value) (Q:Value->AH->Prop) (h:AH):Prop:=match K f args with
 |none=>fW P f fun m c=>(match Nat.ble args.length m with
  |true=>Yn 0 args [] fun a=>nK args.length fun n=>Rk n m (((T f).L[0]?).getD (0,[])).2 a fun a=>wE (T f) a (fM 60 [.code [] c]) fun i b=>D P K T f i [] Q b h
  |false=>hF)
 |some _=>hF
theorem cD {f:FuncId} {T:FuncId->FT} {args:List Value} {Q:Value->AH->Prop} {h:AH} (b:nz P K T f args Q h):Cl P K f args h Q:=by
 unfold nz at b;split at b;rename_i t;obtain⟨m,c,y,u,A,k,b⟩:=Y5 b;refine Oe y u t ?_;split at b;rename_i hle;have hle:args.length<=m.ntmps:=Nat.le_of_ble_eq_true hle;obtain⟨a,g,b⟩:=Nz (env:=args++List.replicate (m.ntmps - args.length) undef) cK.nil (fun j v o=>by
  rw[Nat.zero_add,List.getElem?_append_left (List.getElem?_eq_some_iff.1 o).1];exact o) b
 obtain⟨a,g,b⟩:=Ff g (Qg b);have z:Good P f [.code [] c]:=⟨by simp only[ctx,k,Option.getD_some],trivial⟩;obtain⟨p,r⟩:=gR (P:=P) (f:=f) 60 z;refine tL 60 ?_;have:=Xn g (by simp;omega) r b;rw[p] at this;exact this;cases b;cases b
end
end Go.Ab
end
section
namespace Go.Ab
variable {P:Program} {K:FuncId->List Value->Option dU} {G:Bg} {h:AH} {L L' M:List HP}
end Go.Ab
end
section
namespace Go.Ab
variable {P:Program} {K:FuncId->List Value->Option dU} {G:Bg} {h:AH} {L L' M:List HP}
end Go.Ab
end
section
namespace Go.Ab
variable {P:Program} {K:FuncId->List Value->Option dU} {G:Bg} {h:AH} {L L' M:List HP}
def pE (p:Nat):List Value:=[pt p 0 0]
instance:Fx pE 1 where
 len _:=rfl
 mw _:=rfl
def B6 {α:Type} (R:Nat->Nat->α->HP) (l:List Nat) (s:Nat->α):HP:=iT l.length fun k=>R k (l.getD k 0) (s k)
variable {α:Type} {R:Nat->Nat->α->HP} {l:List Nat} {s:Nat->α} {i q:Nat} {x:α}
theorem F9 (a:Hs G h L):Hs G h (B6 R [] s::L):=Hs.Yz a
theorem Gt (c:Hs G h (R l.length q (s l.length)::B6 R l s::L)):Hs G h (B6 R (l++[q]) s::L):=by
 unfold B6;rw[List.length_append,List.length_singleton];refine Hs.Xg ?_;have e:(l++[q]).getD l.length 0=q:=by simp[List.getD_eq_getElem?_getD]
 rw[e];have a:=c.perm (List.Perm.swap _ _ _);refine(wO (f:=fun k=>R k (l.getD k 0) (s k)) (fun j b=>?_) a).perm (List.Perm.swap _ _ _);simp only[List.getD_eq_getElem?_getD,List.getElem?_append_left b]
end Go.Ab
end
section
namespace Go.Ab
abbrev tx (l:List UInt8):Value:= .string ⟨l.toArray⟩
theorem pC {l:List UInt8} {k:Value->Prop} (a:k (I l.length)):aK (rX (tx l)) k:=⟨_,rfl,by simpa [ByteArray.size] using a⟩
theorem Nk {a b:List UInt8}:(⟨a.toArray⟩:ByteArray)++⟨b.toArray⟩=⟨(a++b).toArray⟩:=by
 apply ByteArray.ext;rw[ByteArray.data_append];simp
theorem kA {a b:List UInt8} {k:Value->Prop} (h:a.length+b.length<=2^62) (c:k (tx (a++b))):aK (Hb .add (tx a) (tx b)) k:=by
 refine⟨_,?_,c⟩;show Ck .add _ _=_;have:(⟨a.toArray⟩:ByteArray).size+(⟨b.toArray⟩:ByteArray).size=a.length+b.length:=rfl;simp only[Ck];rw[tu (by rw[this];exact h),Nk]
theorem Zw {a b:List UInt8}:((⟨a.toArray⟩:ByteArray).toList==(⟨b.toArray⟩:ByteArray).toList)=decide (a=b):=by
 rw[Lib.toList_data,Lib.toList_data,Bool.eq_iff_iff,decide_eq_true_eq,beq_iff_eq]
theorem Ei {a b:List UInt8} {k:Value->Prop} (c:k (.bool (decide (a=b)))):aK (Hb .eql (tx a) (tx b)) k:=by
 refine⟨_,?_,c⟩;show Ck .eql _ _=_;simp only[Ck];rw[Zw]
theorem Du {a b:List UInt8} {k:Value->Prop} (c:k (.bool (decide (a≠b)))):aK (Hb .neq (tx a) (tx b)) k:=by
 refine⟨_,?_,c⟩;show Ck .neq _ _=_;simp only[Ck];rw[Zw];simp
theorem Zr {s:ByteArray}:mA (.string s) (.string s)=true:=by simp only[mA];unfold BEq.beq ByteArray.instBEq ByteArray.beq;simp
theorem Y2:∀(k n:Nat),n<10^(k+1)->Lib.nDigits n<=k+1:=by
 intro k;induction k with
 |zero=>intro n h;rw[Lib.nDigits];split<;>omega
 |succ k a=>
  intro n h;rw[Lib.nDigits];split;omega;have:=a (n/10) (by omega);omega
theorem O8 {u:Nat} (h:u<=9223372036854775808):(Lib.decDigits u).length<=19:=by
 rw[Lib.decDigits_length];exact Y2 18 u (by omega)
theorem tY {n:Int} (h: -9223372036854775808<=n/\n<=9223372036854775807):(Lib.itoa n).length<=20:=by
 unfold Lib.itoa;have a:=O8 (u:=n.natAbs) (by omega);split;simp;omega;have b:=O8 (u:=n.toNat) (by omega);omega
theorem A6 {l:List UInt8} {a b:Nat}:(⟨l.toArray⟩:ByteArray).extract a b=⟨((l.take b).drop a).toArray⟩:=by
 apply ByteArray.ext;rw[ByteArray.data_extract];apply Array.ext';simp[List.drop_take]
theorem G0 {l:List UInt8} {n:Nat} {k:Value->Prop} (c:n<=l.length) (a:k (tx (l.take n))):aK (Ha (tx l) none (some (I n))) k:=by
 refine⟨_,?_,a⟩;have b:(⟨l.toArray⟩:ByteArray).size=l.length:=rfl;simp only[Ha,lY,b];rw[aae];simp only[Int.toNat_natCast];rw[A6,List.drop_zero]
theorem Dv {l:List UInt8} {n:Nat} {k:Value->Prop} (c:n<=l.length) (a:k (tx (l.drop n))):aK (Ha (tx l) (some (I n)) none) k:=by
 refine⟨_,?_,a⟩;have b:(⟨l.toArray⟩:ByteArray).size=l.length:=rfl;simp only[Ha,lY,b];rw[aae];simp only[Int.toNat_natCast];rw[A6,List.take_of_length_le (Nat.le_refl _)]
variable {G:Bg} {h:AH} {L L':List HP}
def Wk (a:List Nat):HP:=sp (a.map fun d=>mk d ())
theorem km {k:AH->Prop}:∀(b:List Nat) {h:AH},Hs G h (Wk b::L)->(∀h',Hs G h' L->k h')->aK (aR b h) k:=by
 intro b;induction b with
 |nil=>intro h a c;exact xD (c _ a.tail)
 |cons d b f=>
  intro h a c;have a:Hs G h (mk d ()::((b.map fun d=>mk d ())++L)):=Hs.unpack a;exact Kb a fun h a=>f (Hs.pack a) c
theorem Vx {d:Nat} {a:List Nat} (b:Hs G h (mk d ()::Wk a::L)):Hs G h (Wk (d::a)::L):=by
 have:Hs G h (Wk a::mk d ()::L):=b.pS;have:=Hs.unpack this;refine Hs.pack (A:=mk d ()::a.map fun d=>mk d ()) ?_;exact this.perm (by
  show((a.map fun d=>mk d ())++(mk d ()::L)).Perm (mk d ()::((a.map fun d=>mk d ())++L));exact List.perm_middle)
theorem Yc (a:Hs G h L):Hs G h (Wk []::L):=Hs.pack (A:=[]) a
end Go.Ab
end
namespace Go.Is
open Go Go.Ab
section
def opsL:List (List UInt8×List Int):=[([],[0,0,0]),([115,101,116],[1,2,0]),([97,100,100],[1,1,1]),([108,111,97,100],[1,1,0]),([115,116,111,114,101],[1,1,0]),([115,119,97,112],[1,1,0]),([102,101,110,99,101],[0,0,0]),
  ([119,111,114,108,100],[3,0,0]),([99,97,108,108],[4,1,1]),([106,117,109,112],[5,0,0]),([122,101,114,111],[1,5,0]),([104,97,108,116],[0,0,0])]
def eP:List Value:=opsL.flatMap fun r=>tx r.1::r.2.map I
structure Ins where
 op:Int
 a:Int
 b:Int
 c:Int
 deriving DecidableEq
def Ins.enc (x:Ins):List Value:=[I x.op,I x.a,I x.b,I x.c]
def fH (o:Nat):List UInt8:=(opsL.getD o ([],[])).1
def jU (o:Nat):List Int:=(opsL.getD o ([],[])).2
def xE (x:Int):Bool:=decide (1<=x/\x<12)
def lF (what v many:Int):Bool:=
 if what=1 then decide (0<=v/\v<4) else if what=2 then true else if what=3 then decide (1<=v/\v<=3) else if what=4 then decide (1<=v/\v<=4) else if what=5 then decide (0<=v/\v<=many) else decide (v=0)
def Ins.qE (x:Ins):List Int:=[x.a,x.b,x.c]
def Ins.dV (x:Ins):List (Int×Int):=(jU x.op.toNat).zip x.qE
def lZ (x:Ins) (many:Int):Int:=if xE x.op then(if(x.dV.all fun p=>lF p.1 p.2 many) then 0 else 10) else 15
def Kt (many:Int):List Ins->Nat->Int×Int
 |[],_=>(0,0)
 |x::l,i=>if lZ x many≠0 then((i:Int)+1,lZ x many) else Kt many l (i+1)
def cQ (p:List Ins):Int×Int:=if 32<p.length then(0,11) else Kt p.length p 0
def used:List (Int×Int)->List Int
 |[]=>[]
 |p::l=>if p.1=0 then [] else p.2::used l
def cZ (vs:List Int):List UInt8:=vs.flatMap fun v=>32::Lib.itoa v
def fI (x:Ins):List UInt8:=fH x.op.toNat++cZ (used x.dV)
def bN (p:List Ins):List UInt8:=p.flatMap fun x=>fI x++[10]
def eT (p:List Ins):List UInt8×Int:=if(cQ p).2=0 then(bN p,0) else([],(cQ p).2)
def dN (n:Int):Prop:= -9223372036854775808<=n/\n<=9223372036854775807
def Ins.dN (x:Ins):Prop:=Is.dN x.a/\Is.dN x.b/\Is.dN x.c
theorem gq {k:Nat} (h:k<12):k=0\/k=1\/k=2\/k=3\/k=4\/k=5\/k=6\/k=7\/k=8\/k=9\/k=10\/k=11:=by omega
theorem Hi {k:Nat} (h:k<12):eP[k*4]?=some (tx (fH k)):=by
 rcases gq h with rfl|rfl|rfl|rfl|rfl|rfl|rfl|rfl|rfl|rfl|rfl|rfl<;>rfl
theorem Ae {k i:Nat} (h:k<12) (b:i<3):eP[k*4+(1+i*1)]?=some (I ((jU k).getD i 0)):=by
 have a:i=0\/i=1\/i=2:=by omega
 rcases gq h with rfl|rfl|rfl|rfl|rfl|rfl|rfl|rfl|rfl|rfl|rfl|rfl<;>rcases a with rfl|rfl|rfl<;>rfl
theorem nX {k:Nat} (h:k<12):(jU k).length=3:=by
 rcases gq h with rfl|rfl|rfl|rfl|rfl|rfl|rfl|rfl|rfl|rfl|rfl|rfl<;>rfl
theorem qW {k:Nat} (h:k<12):(fH k).length<=5:=by
 rcases gq h with rfl|rfl|rfl|rfl|rfl|rfl|rfl|rfl|rfl|rfl|rfl|rfl<;>decide
theorem kW {x:Ins} (h:xE x.op=true):x.dV.length=3:=by
 have:=of_decide_eq_true h;unfold Ins.dV;rw[List.length_zip,nX (by omega)];rfl
theorem zQ {x:Ins} (h:xE x.op=true) {i:Nat} (b:i<3):x.dV[i]?=some ((jU x.op.toNat).getD i 0,x.qE.getD i 0):=by
 have:=of_decide_eq_true h;have a:=nX (k:=x.op.toNat) (by omega);unfold Ins.dV;rw[List.getElem?_zip_eq_some];refine⟨?_,?_⟩;show(jU x.op.toNat)[i]?=some ((jU x.op.toNat).getD i 0);rw[List.getD_eq_getElem?_getD,List.getElem?_eq_getElem (by omega)];rfl;show x.qE[i]?=some (x.qE.getD i 0);rw[List.getD_eq_getElem?_getD,List.getElem?_eq_getElem (by simp[Ins.qE];omega)];rfl
theorem Jy:∀(l:List (Int×Int)),(∀p∈l,p.1≠0)->used l=l.map (·.2)
 |[],_=>rfl
 |p::l,h=>by
  rw[used,tt (h p List.mem_cons_self),Jy l fun q a=>h q (List.mem_cons_of_mem _ a)];rfl
theorem Io {x:Int×Int} (a:x.1=0):∀(done rest:List (Int×Int)),(∀p∈done,p.1≠0)->used (done++x::rest)=done.map (·.2)
 |[],rest,_=>by rw[List.nil_append,used,tu a];rfl
 |p::l,rest,h=>by
  rw[List.cons_append,used,tt (h p List.mem_cons_self),Io a l rest fun q b=>h q (List.mem_cons_of_mem _ b)];rfl
theorem Hg:∀(l:List (Int×Int)) (v:Int),v∈used l->∃p∈l,p.2=v
 |[],v,h=>by simp[used] at h
 |p::l,v,h=>by
  rw[used] at h;split at h;simp at h;rcases List.mem_cons.1 h with rfl|h;exact⟨p,List.mem_cons_self,rfl⟩;obtain⟨q,a,e⟩:=Hg l v h;exact⟨q,List.mem_cons_of_mem _ a,e⟩
theorem Hl:∀(l:List (Int×Int)),(used l).length<=l.length
 |[]=>by simp[used]
 |p::l=>by
  rw[used];split;simp;have:=Hl l;simp;omega
theorem uA {x:Ins} (h:x.dN) {p:Int×Int} (a:p∈x.dV):dN p.2:=by
 have:p.2∈x.qE:=(List.of_mem_zip a).2;simp only[Ins.qE,List.mem_cons,List.not_mem_nil,or_false] at this;obtain⟨b,c,f⟩:=h;rcases this with e|e|e<;>rw[e]<;>assumption
theorem gP:∀(l:List Int),(∀v∈l,dN v)->(cZ l).length<=l.length*21
 |[],_=>by simp[cZ]
 |v::l,h=>by
  have b:=gP l fun w a=>h w (List.mem_cons_of_mem _ a);have c:=tY (h v List.mem_cons_self);have:cZ (v::l)=32::Lib.itoa v++cZ l:=rfl;rw[this];simp;omega
theorem Jl {x:Ins} (a:xE x.op=true) (h:x.dN):(fI x).length<=68:=by
 have g:=of_decide_eq_true a;have j:=qW (k:=x.op.toNat) (by omega);have b:=Hl x.dV;rw[kW a] at b;have m:=gP (used x.dV) fun v f=>by
  obtain⟨p,c,rfl⟩:=Hg _ _ f;exact uA h c
 unfold fI;rw[List.length_append];omega
theorem Ta {many:Int}:∀(l:List Ins) (i:Nat),(Kt many l i).2=0->∀x∈l,lZ x many=0
 |[],_,_,x,a=>by simp at a
 |y::l,i,h,x,a=>by
  rw[Kt] at h;split at h;rename_i b;exact absurd h b;rename_i b;rcases List.mem_cons.1 a with rfl|a;omega;exact Ta l (i+1) h x a
theorem qS {x:Ins} {many:Int} (h:lZ x many=0):xE x.op=true:=by
 unfold lZ at h;split at h;assumption;cases h
theorem eK {p:List Ins} (h:(cQ p).2=0):p.length<=32/\∀x∈p,lZ x p.length=0:=by
 unfold cQ at h;split at h;cases h;exact⟨by omega,Ta p 0 h⟩
end
section
theorem T0:∀(l:List UInt8) (acc:Nat) (m:List UInt8),Lib.parseUint10 acc (l++m)=match Lib.parseUint10 acc l with|.ok a=>Lib.parseUint10 a m|.syntax=> .syntax|.range=> .range
 |[],acc,m=>rfl
 |c::l,acc,m=>by
  simp only[List.cons_append,Lib.parseUint10];split;split;rfl;split;rfl;exact T0 l _ m;rfl
theorem yJ {u:Nat} (h:u<=9):(UInt8.ofNat (48+u)).toNat=48+u:=by
 rw[UInt8.toNat_ofNat'];omega
theorem Td:∀(u:Nat),u<=9223372036854775808->Lib.parseUint10 0 (Lib.decDigits u)= .ok u:=by
 intro u;induction u using Nat.strongRecOn with
 |_ u a=>
  intro b;rw[Lib.decDigits];split;rename_i h;simp only[Lib.parseUint10];have:=yJ (u:=u) (by omega);rw[this,aae,aab,aab];congr 1;omega;rename_i h;rw[T0,a (u/10) (by omega) (by omega)];simp only[Lib.parseUint10];have:=yJ (u:=u % 10) (by omega);rw[this,aae,aab,aab];congr 1;omega
theorem pG:∀(u:Nat),(∀b∈Lib.decDigits u,48<=b.toNat/\b.toNat<=57)/\Lib.decDigits u≠[]:=by
 intro u;induction u using Nat.strongRecOn with
 |_ u a=>
  rw[Lib.decDigits];split;rename_i h;refine⟨fun b hb=>?_,by simp⟩;rw[List.mem_singleton.1 hb,yJ (by omega)];omega;rename_i h;refine⟨fun b hb=>?_,by simp⟩;rcases List.mem_append.1 hb with hb|hb;exact(a (u/10) (by omega)).1 b hb;rw[List.mem_singleton.1 hb,yJ (by omega)];omega
theorem K4 {v:Int}:∀b∈Lib.itoa v,b.toNat=45\/(48<=b.toNat/\b.toNat<=57):=by
 intro b hb;unfold Lib.itoa at hb;split at hb;rcases List.mem_cons.1 hb with rfl|hb;exact .inl rfl;exact .inr ((pG _).1 b hb);exact .inr ((pG _).1 b hb)
theorem Qs {v:Int} (h:dN v):Lib.atoiAll (Lib.itoa v)= .ok v:=by
 unfold dN at h;unfold Lib.itoa;split;rename_i j;obtain⟨b,a⟩:=pG v.natAbs;simp only[Lib.atoiAll];rw[tu (.inr rfl)];have:Lib.parseMag (Lib.decDigits v.natAbs)= .ok v.natAbs:=by
  unfold Lib.parseMag;rw[tt a];exact Td _ (by omega)
 rw[this];simp only;rw[tt (fun f=>f.1 rfl),aab,tu (show UInt8.toNat 45=45 from rfl)];congr 1;omega;rename_i j;obtain⟨b,a⟩:=pG v.toNat;have g:Lib.parseMag (Lib.decDigits v.toNat)= .ok v.toNat:=by
  unfold Lib.parseMag;rw[tt a];exact Td _ (by omega)
 cases hd:Lib.decDigits v.toNat with
 |nil=>exact absurd hd a
 |cons c r=>
  have k:=b c (by rw[hd];exact List.mem_cons_self);simp only[Lib.atoiAll];rw[aab,<-hd,g];simp only;rw[aab,aab,aab];congr 1;omega
theorem Gg {l:List UInt8} {v:Int} (h:Lib.atoiAll l= .ok v):dN v:=by
 unfold Lib.atoiAll at h;split at h;cases h;simp only at h;split at h;cases h;cases h;split at h;cases h;split at h;cases h;injection h with h;unfold dN;subst h;split<;>omega
def gL (l:List UInt8):Option Int:=match Lib.atoiAll l with
 |.ok v=>if Lib.itoa v=l then some v else none
 |_=>none
theorem Bt {v:Int} (h:dN v):gL (Lib.itoa v)=some v:=by
 unfold gL;rw[Qs h];simp
theorem Ar {l:List UInt8} {v:Int} (h:gL l=some v):Lib.itoa v=l/\dN v:=by
 unfold gL at h;split at h;rename_i w b;split at h;rename_i a;cases h;exact⟨a,Gg b⟩;cases h;cases h
def jW (c:UInt8):List UInt8->Option (List UInt8×List UInt8)
 |[]=>none
 |b::l=>if b=c then some ([],l) else(jW c l).map fun x=>(b::x.1,x.2)
theorem lM {c:UInt8}:∀{l:List UInt8},jW c l=none↔c∉l
 |[]=>by simp[jW]
 |b::l=>by
  rw[jW];by_cases h:b=c;simp[h];rw[tt h,Option.map_eq_none_iff,lM];simp[Ne.symm h]
theorem qR {c:UInt8}:∀{l a b:List UInt8},jW c l=some (a,b)->l=a++c::b/\c∉a
 |[],a,b,h=>by simp[jW] at h
 |x::l,a,b,h=>by
  rw[jW] at h;split at h;rename_i f;cases h;simp[f];rename_i f;obtain⟨y,m,k⟩:=Option.map_eq_some_iff.1 h;obtain⟨o,p⟩:=y;cases k;obtain⟨g,j⟩:=qR m;exact⟨by simp[g],by simp[j,Ne.symm f]⟩
theorem vP {c:UInt8}:∀{a:List UInt8} (b:List UInt8),c∉a->jW c (a++c::b)=some (a,b)
 |[],b,_=>by simp[jW]
 |x::a,b,h=>by
  have g:x≠c:=fun e=>h (by simp[e]);have f:c∉a:=fun e=>h (List.mem_cons_of_mem _ e);rw[List.cons_append,jW,tt g,vP b f];rfl
theorem Jr {c:UInt8}:∀{l:List UInt8},jW c l=none->Lib.indexByte l c= -1
 |[],_=>rfl
 |b::l,h=>by
  rw[jW] at h;split at h;cases h;rename_i a;have:=Jr (Option.map_eq_none_iff.1 h);simp only[Lib.indexByte];rw[tt (by simpa using a),this];rfl
theorem Bs {c:UInt8}:∀{l a b:List UInt8},jW c l=some (a,b)->Lib.indexByte l c=a.length
 |[],a,b,h=>by simp[jW] at h
 |x::l,a,b,h=>by
  rw[jW] at h;split at h;rename_i f;cases h;simp only[Lib.indexByte];rw[tu (by simpa using f)];rfl;rename_i f;obtain⟨y,m,j⟩:=Option.map_eq_some_iff.1 h;obtain⟨g,o⟩:=y;cases j;have:=Bs m;simp only[Lib.indexByte];rw[tt (by simpa using f),this];have k:¬((g.length:Int)== -1)=true:=by simp
  rw[tt k];simp
def bJ (c:UInt8):List UInt8->List (List UInt8)
 |[]=>[[]]
 |b::l=>if b=c then []::bJ c l else match bJ c l with
  |[]=>[[b]]
  |w::ws=>(b::w)::ws
theorem oR {c:UInt8}:∀{l:List UInt8},jW c l=none->bJ c l=[l]
 |[],_=>rfl
 |b::l,h=>by
  rw[jW] at h;split at h;cases h;rename_i a;rw[bJ,tt a,oR (Option.map_eq_none_iff.1 h)]
theorem pO {c:UInt8}:∀{l a b:List UInt8},jW c l=some (a,b)->bJ c l=a::bJ c b
 |[],a,b,h=>by simp[jW] at h
 |x::l,a,b,h=>by
  rw[jW] at h;split at h;rename_i f;cases h;rw[bJ,tu f];rename_i f;obtain⟨y,j,g⟩:=Option.map_eq_some_iff.1 h;obtain⟨k,m⟩:=y;cases g;rw[bJ,tt f,pO j]
theorem nV {c:UInt8} (l:List UInt8):bJ c l≠[]:=by
 cases h:jW c l with
 |none=>rw[oR h];simp
 |some x=>rw[pO (a:=x.1) (b:=x.2) h];simp
theorem rQ {c:UInt8}:∀(l:List UInt8),(bJ c l).length=l.count c+1
 |[]=>rfl
 |b::l=>by
  have f:=rQ (c:=c) l;rw[bJ];split;rename_i a;rw[List.length_cons,f,a,List.count_cons_self];rename_i a;rw[List.count_cons_of_ne a,<-f];cases hs:bJ c l with
  |nil=>exact absurd hs (nV l)
  |cons w ws=>rfl
def iX (c:UInt8):List (List UInt8)->List UInt8
 |[]=>[]
 |w::ws=>w++ws.flatMap fun v=>c::v
theorem oT {c:UInt8}:∀(l:List UInt8),iX c (bJ c l)=l
 |[]=>rfl
 |b::l=>by
  have a:=oT (c:=c) l;rw[bJ];cases hs:bJ c l with
  |nil=>exact absurd hs (nV l)
  |cons w ws=>
   rw[hs] at a;split;rename_i f;simp only[iX,List.nil_append,List.flatMap_cons] at a ⊢;rw[List.cons_append,a,f];simp only[iX,List.cons_append] at a ⊢;rw[a]
theorem pL {c:UInt8}:∀(ws:List (List UInt8)) (w:List UInt8),c∉w->(∀v∈ws,c∉v)->bJ c (iX c (w::ws))=w::ws
 |[],w,h,_=>by
  simp only[iX,List.flatMap_nil,List.append_nil];exact oR (lM.2 h)
 |v::ws,w,h,a=>by
  have:iX c (w::v::ws)=w++c::iX c (v::ws):=by simp[iX]
  rw[this,pO (vP _ h),pL ws v (a v List.mem_cons_self) fun u b=>a u (List.mem_cons_of_mem _ b)]
end
section
def Vr (w:List UInt8):Nat->Nat->Nat
 |0,_=>0
 |f+1,i=>if xE i=true/\fH i=w then i else Vr w f (i+1)
def oO (w:List UInt8):Nat:=Vr w 12 0
theorem Aw {w:List UInt8}:∀(f i:Nat),i+f<=12->Vr w f i≠0->1<=Vr w f i/\Vr w f i<12/\fH (Vr w f i)=w
 |0,_,_,h=>absurd rfl h
 |f+1,i,b,h=>by
  rw[Vr] at h ⊢;split;rename_i a;exact⟨by have:=of_decide_eq_true a.1;omega,by omega,a.2⟩;rename_i a;rw[tt a] at h;exact Aw f (i+1) (by omega) h
theorem Q0 {o:Nat} (b:1<=o) (a:o<12):oO (fH o)=o:=by
 rcases gq a with rfl|rfl|rfl|rfl|rfl|rfl|rfl|rfl|rfl|rfl|rfl|rfl;omega;all_goals decide
def uP:List Int->List (List UInt8)->Option (List Int)
 |[],a=>if a=[] then some [] else none
 |w::ws,a=>if w=0 then(if a=[] then some [] else none) else match a with
  |[]=>none
  |q::b=>match gL q with
   |none=>none
   |some v=>(uP ws b).map (v::·)
theorem sX (w:Int) (ws:List Int) (ps:List (List UInt8)):uP (w::ws) ps=if w=0 then(if ps=[] then some [] else none) else match ps with
  |[]=>none
  |q::a=>match gL q with
   |none=>none
   |some v=>(uP ws a).map (v::·):=by
 cases ps<;>rfl
def Dx (o:Nat) (vs:List Int):Ins:=⟨o,vs.getD 0 0,vs.getD 1 0,vs.getD 2 0⟩
def eW (l:List UInt8):Option Ins:=match bJ 32 l with
 |[]=>none
 |w::a=>if oO w=0 then none else(uP (jU (oO w)) a).map (Dx (oO w))
def gD (many:Int):Nat->List UInt8->List Ins->Nat->List Ins×Int×Int
 |0,_,_,_=>([],0,0)
 |f+1,s,acc,no=>if s=[] then(acc,0,0) else match jW 10 s with
  |none=>([],no,14)
  |some (line,rest)=>match eW line with
   |none=>([],no,14)
   |some x=>if lZ x many≠0 then([],no,lZ x many) else gD many f rest (acc++[x]) (no+1)
def cX (s:List UInt8):List Ins×Int×Int:=if 32<s.count 10 then([],0,11) else gD (s.count 10:Nat) (s.length+1) s [] 1
def F2 (x:Ins):Prop:=∀p∈x.dV,p.1=0->p.2=0
theorem Mf {x:Ins} {many:Int} (h:lZ x many=0):F2 x:=by
 have c:=qS h;unfold lZ at h;rw[tu c] at h;split at h;rename_i b;intro p f a;have:=List.all_eq_true.1 b p f;rw[a] at this;exact of_decide_eq_true (p:=p.2=0) this;cases h
theorem Dc:∀(ps:List (Int×Int)),(∀p∈ps,dN p.2)->uP (ps.map (·.1)) ((used ps).map Lib.itoa)=some (used ps)
 |[],_=>rfl
 |p::ps,h=>by
  rw[List.map_cons,sX,used];split;rfl;rw[List.map_cons];simp only;rw[Bt (h p List.mem_cons_self)];simp only;rw[Dc ps fun q a=>h q (List.mem_cons_of_mem _ a)];rfl
theorem Qb {x:Ins} (b:xE x.op=true):x.dV.map (·.1)=jU x.op.toNat:=by
 have:=of_decide_eq_true b;have a:=nX (k:=x.op.toNat) (by omega);unfold Ins.dV;exact List.map_fst_zip (by rw[a];simp[Ins.qE])
theorem Gi {c:UInt8} (h:c.toNat≠45/\(c.toNat<48\/57<c.toNat)) (v:Int):c∉Lib.itoa v:=fun a=>by
 have:=K4 c a;omega
theorem Pa {k:Nat} (h:k<12):(32:UInt8)∉fH k/\(10:UInt8)∉fH k:=by
 rcases gq h with rfl|rfl|rfl|rfl|rfl|rfl|rfl|rfl|rfl|rfl|rfl|rfl<;>decide
theorem D4 {x:Ins}:fI x=iX 32 (fH x.op.toNat::(used x.dV).map Lib.itoa):=by
 show _=fH x.op.toNat++((used x.dV).map Lib.itoa).flatMap fun v=>32::v;rw[List.flatMap_map];rfl
theorem W8 {x:Ins} (o:xE x.op=true) (y:F2 x):Dx x.op.toNat (used x.dV)=x:=by
 have:=of_decide_eq_true o;obtain⟨op,a,b,c⟩:=x;simp only at this;have j:∀i,i<3->((jU op.toNat).getD i 0=0->([a,b,c]:List Int).getD i 0=0):=fun i u r=>by
  have v:=List.mem_of_getElem? (zQ (x:=⟨op,a,b,c⟩) o u);exact y _ v r
 have t:op=1\/op=2\/op=3\/op=4\/op=5\/op=6\/op=7\/op=8\/op=9\/op=10\/op=11:=by omega
 have p:=j 0 (by decide);have m:=j 1 (by decide);have g:=j 2 (by decide);rcases t with rfl|rfl|rfl|rfl|rfl|rfl|rfl|rfl|rfl|rfl|rfl;have e:=g rfl;simp at e;subst e;rfl;rfl;have e:=g rfl;simp at e;subst e;rfl;have e:=g rfl;simp at e;subst e;rfl;have e:=g rfl;simp at e;subst e;rfl;have e:=g rfl;have f:=m rfl;have k:=p rfl;simp at e f k;subst e f k;rfl;have e:=g rfl;have f:=m rfl;simp at e f;subst e f;rfl;rfl;have e:=g rfl;have f:=m rfl;simp at e f;subst e f;rfl;have e:=g rfl;simp at e;subst e;rfl;have e:=g rfl;have f:=m rfl;have k:=p rfl;simp at e f k;subst e f k;rfl
theorem Lv {x:Ins} (a:xE x.op=true) (c:x.dN) (f:F2 x):eW (fI x)=some x:=by
 have:=of_decide_eq_true a;unfold eW;rw[D4,pL _ _ (Pa (k:=x.op.toNat) (by omega)).1 fun v g=>by
  obtain⟨w,_,rfl⟩:=List.mem_map.1 g;exact Gi (by decide) w]
 simp only;rw[Q0 (by omega) (by omega),aab,<-Qb a,Dc _ fun p b=>uA c b];simp only[Option.map_some];rw[W8 a f]
theorem Gy {x:Ins} (a:xE x.op=true):(10:UInt8)∉fI x:=by
 have:=of_decide_eq_true a;unfold fI cZ;intro h;rcases List.mem_append.1 h with h|h;exact(Pa (k:=x.op.toNat) (by omega)).2 h;obtain⟨v,_,b⟩:=List.mem_flatMap.1 h;rcases List.mem_cons.1 b with h|h;revert h;decide;exact Gi (by decide) v h
theorem D2:∀(ws:List Int) (ps:List (List UInt8)) (vs:List Int),uP ws ps=some vs->ps=vs.map Lib.itoa/\(∀v∈vs,dN v)/\vs.length<=ws.length/\used (ws.zip (vs++List.replicate (ws.length - vs.length) 0))=vs/\∀i,vs.length<=i->i<ws.length->True
 |[],ps,vs,h=>by
  rw[uP] at h;split at h;rename_i a;cases h;exact⟨by simp[a],by simp,by simp,rfl,fun _ _ _=>trivial⟩;cases h
 |w::ws,ps,vs,h=>by
  rw[sX] at h;split at h;rename_i c;split at h;rename_i a;cases h;exact⟨by simp[a],by simp,by simp,by simp[List.replicate_succ,used,c],fun _ _ _=>trivial⟩;cases h;rename_i c;split at h;cases h;rename_i q p;split at h;cases h;rename_i v k;obtain⟨r,b,rfl⟩:=Option.map_eq_some_iff.1 h;obtain⟨f,g,t,j,_⟩:=D2 ws p r b;obtain⟨m,o⟩:=Ar k;refine⟨by rw[f,List.map_cons,m],fun u hu=>?_,by simp;omega,?_,fun _ _ _=>trivial⟩;rcases List.mem_cons.1 hu with rfl|hu;exact o;exact g u hu;simp only[List.length_cons,List.cons_append,List.zip_cons_cons,Nat.add_sub_add_right];rw[used,tt c,j]
theorem U3 {vs:List Int} {n i:Nat} (h:i<n) (b:vs.length<=n):(vs++List.replicate (n - vs.length) 0)[i]?=some (vs.getD i 0):=by
 rw[List.getD_eq_getElem?_getD];by_cases a:i<vs.length;rw[List.getElem?_append_left a,List.getElem?_eq_getElem a];rfl;rw[List.getElem?_append_right (by omega),List.getElem?_replicate,aae,List.getElem?_eq_none (by omega)];rfl
theorem Nn {l:List UInt8} {x:Ins} (h:eW l=some x):xE x.op=true/\x.dN/\fI x=l:=by
 unfold eW at h;split at h;cases h;rename_i w D f;split at h;cases h;rename_i z;obtain⟨a,g,rfl⟩:=Option.map_eq_some_iff.1 h;obtain⟨B,m,o⟩:=Aw 12 0 (by omega) z;have t:Vr w 12 0=oO w:=rfl;rw[t] at B m o;obtain⟨p,r,a3,a4,_⟩:=D2 _ _ _ g;have j:=nX m;have A:xE (Dx (oO w) a).op=true:=by
  unfold Dx xE;simp only;exact decide_eq_true (by omega)
 have y:(Dx (oO w) a).qE=a++List.replicate ((jU (oO w)).length - a.length) 0:=by
  rw[j] at a3 ⊢;apply List.ext_getElem?;intro i;by_cases c:i<3;rw[U3 c a3];have:i=0\/i=1\/i=2:=by omega
  rcases this with rfl|rfl|rfl<;>rfl;rw[List.getElem?_eq_none (by simp[Dx,Ins.qE];omega),List.getElem?_eq_none (by simp;omega)]
 have k:(Dx (oO w) a).op.toNat=oO w:=by simp[Dx]
 have u:used (Dx (oO w) a).dV=a:=by
  unfold Ins.dV;rw[y,k,a4]
 have b:∀i,dN (a.getD i 0):=fun i=>by
  rw[List.getD_eq_getElem?_getD];cases c:a[i]? with
  |none=>simp[dN]
  |some v=>exact r v (List.mem_of_getElem? c)
 refine⟨A,⟨b 0,b 1,b 2⟩,?_⟩;rw[D4,u,k,o,<-p,<-f,oT]
theorem tB:∀(p:List Ins),(∀x∈p,xE x.op=true)->(bN p).count 10=p.length
 |[],_=>rfl
 |x::p,h=>by
  have:bN (x::p)=(fI x++[10])++bN p:=rfl;rw[this,List.count_append,List.count_append,tB p fun y a=>h y (List.mem_cons_of_mem _ a),List.count_eq_zero.2 (Gy (h x List.mem_cons_self))];simp;omega
theorem xB {many:Int}:∀(p:List Ins) (f:Nat) (acc:List Ins) (no:Nat),p.length<f->(∀x∈p,lZ x many=0/\x.dN)->gD many f (bN p) acc no=(acc++p,0,0)
 |[],f+1,acc,no,_,_=>by rw[gD,tu (show bN []=[] from rfl),List.append_nil]
 |x::p,f+1,acc,no,c,h=>by
  obtain⟨a,g⟩:=h x List.mem_cons_self;have b:=qS a;have e:bN (x::p)=fI x++10::bN p:=by simp[bN]
  rw[e,gD,tt (by simp),vP _ (Gy b)];simp only;rw[Lv b g (Mf a)];simp only;rw[aab,xB p f _ _ (by simp at c;omega) fun y j=>h y (List.mem_cons_of_mem _ j)];simp
theorem Pe:∀(p:List Ins),p.length<=(bN p).length
 |[]=>Nat.le_refl _
 |x::p=>by
  have:=Pe p;have e:bN (x::p)=(fI x++[10])++bN p:=rfl;rw[e];simp;omega
theorem Hj {p:List Ins} (g:∀x∈p,x.dN) (h:(eT p).2=0):cX (eT p).1=(p,0,0):=by
 have b:(cQ p).2=0:=by
  unfold eT at h;split at h;assumption;rename_i f;exact absurd h f
 obtain⟨j,c⟩:=eK b;unfold eT;rw[tu b];show cX (bN p)=_;unfold cX;rw[tB p fun x a=>qS (c x a),aab,xB p _ _ _ (by have:=Pe p;omega) fun x a=>⟨c x a,g x a⟩];rfl
theorem xN {many:Int}:∀(f:Nat) (s:List UInt8) (acc:List Ins) (no:Nat),s.length<f->1<=no->
  ((gD many f s acc no).2.2=0->(gD many f s acc no).2.1=0/\∃q,(gD many f s acc no).1=acc++q/\bN q=s/\∀x∈q,lZ x many=0/\x.dN)/\
  ((gD many f s acc no).2.2≠0->(gD many f s acc no).1=[]/\0<(gD many f s acc no).2.1)
 |0,s,acc,no,h,_=>by omega
 |f+1,s,acc,no,h,r=>by
  rw[gD];split;rename_i k;exact⟨fun _=>⟨rfl,[],by simp,by rw[k];rfl,by simp⟩,fun a=>absurd rfl a⟩;split;exact⟨fun a=>(by cases a),fun _=>⟨rfl,by simp;omega⟩⟩;rename_i line rest b;obtain⟨c,_⟩:=qR b;split;exact⟨fun a=>(by cases a),fun _=>⟨rfl,by simp;omega⟩⟩;rename_i x m;split;rename_i j;exact⟨fun a=>absurd a j,fun _=>⟨rfl,by simp;omega⟩⟩;rename_i j;obtain⟨o,p⟩:=xN (many:=many) f rest (acc++[x]) (no+1) (by rw[c] at h;simp at h;omega) (by omega);refine⟨fun a=>?_,p⟩;obtain⟨g1,q,g2,g3,g4⟩:=o a;obtain⟨i1,i2,i3⟩:=Nn m;refine⟨g1,x::q,by rw[g2];simp,?_,fun y g=>?_⟩;have e:bN (x::q)=fI x++10::bN q:=by simp[bN]
  rw[e,i3,g3,c];rcases List.mem_cons.1 g with rfl|g;exact⟨by omega,i2⟩;exact g4 y g
theorem Ka {s:List UInt8}:((cX s).2.2=0->(cX s).2.1=0/\(∀x∈(cX s).1,x.dN)/\eT (cX s).1=(s,0))/\((cX s).2.2≠0->(cX s).1=[]/\(0<(cX s).2.1\/(cX s).2.2=11)):=by
 unfold cX;split;exact⟨fun h=>(by cases h),fun _=>⟨rfl,.inr rfl⟩⟩;rename_i o;obtain⟨m,f⟩:=xN (many:=(s.count 10:Nat)) (s.length+1) s [] 1 (by omega) (by omega);refine⟨fun h=>?_,fun h=>⟨(f h).1,.inl (f h).2⟩⟩;obtain⟨g1,q,g2,g3,g4⟩:=m h;rw[List.nil_append] at g2;rw[g2];have g:s.count 10=q.length:=by rw[<-g3];exact tB q fun x a=>qS (g4 x a).1
 refine⟨g1,fun x a=>(g4 x a).2,?_⟩;have b:(cQ q).2=0:=by
  unfold cQ;rw[aab];have:∀(l:List Ins) (i:Nat),(∀x∈l,lZ x q.length=0)->(Kt q.length l i).2=0:=by
   intro l;induction l with
   |nil=>intro i _;rfl
   |cons y l k=>
    intro i c;rw[Kt,tt (by rw[c y List.mem_cons_self];simp)];exact k (i+1) fun z j=>c z (List.mem_cons_of_mem _ j)
  exact this q 0 fun x a=>by rw[<-g];exact(g4 x a).1
 unfold eT;rw[tu b,g3]
end
end Go.Is
namespace Go.At
open Go Go.Ab Go.Hm Go.Is
section
structure Ev where
 core:Int
 at':Int
 op:Int
 world:Int
 word:Int
 value:Int
 code:Int
 deriving DecidableEq
def Ev.enc (x:Ev):List Value:=[I x.core,I x.at',I x.op,I x.world,I x.word,I x.value,I x.code]
def qd:Ev:=⟨0,0,0,0,0,0,0⟩
structure cA where
 nP:Nat->Int
 at':Int
 world:Int
 over:Bool
 prog:List Ins
def cA.core (s:cA):List Value:=[I (s.nP 0),I (s.nP 1),I (s.nP 2),I (s.nP 3),I s.at',I s.world,.bool s.over]
def Xi (p:List Ins) (a:Int):Ins:=p.getD a.toNat ⟨0,0,0,0⟩
def Am (p:List Ins) (a:Int):Bool:=if(p.length:Int)<=a then true else decide ((Xi p a).op=11)
def cA.nY (s:cA) (a:Int):cA:={s with at':=a,over:=Am s.prog a}
def cA.Bj (s:cA) (i v:Int):cA:={s with nP:=eG s.nP i.toNat v}
def cA.pn (s:cA) (v:Int):cA:={s with world:=v}
def On (mem:Nat->Ln) (w:Nat) (v:Int):Nat->Ln:=eG mem (w/2) (if w % 2=0 then(v,(mem (w/2)).2) else((mem (w/2)).1,v))
structure AM where
 cfg:aZ
 mK:Nat->cA
 qX:List Int
 mem:Nat->Ln
def cA.Ok (s:cA):Prop:=0<=s.at'/\s.at'<=32/\s.over=Am s.prog s.at'/\s.prog.length<=32/\∀x∈s.prog,lZ x s.prog.length=0
def mQ:List (List Ins)->Int
 |[]=>0
 |p::l=>if(cQ p).2≠0 then(cQ p).2 else mQ l
def within (a b:Int) (l:List Int):Bool:=l.all fun x=>decide (a<=x/\x<=b)
def oW (C:aZ) (ps:List (List Ins)) (ws os vs:List Int):Int:=
 if ¬C.Ok then 10
 else if(ps.length:Int)≠C.aS\/(ws.length:Int)≠C.aS\/(os.length:Int)≠C.cH\/vs.length≠C.lines*2 then 1
 else if mQ ps≠0 then mQ ps
 else if ¬(within 0 3 ws=true/\within 0 4 os=true) then 10
 else 0
def words (mem:Nat->Ln):List Int->Nat->Nat->Ln
 |[],_=>mem
 |v::l,i=>words (On mem i v) l (i+1)
def kY (p:List Ins) (w:Int):cA:={nP:=fun _=>0,at':=0,world:=w,over:=Am p 0,prog:=p}
def ky (C:aZ) (ps:List (List Ins)) (ws os vs:List Int):AM:=⟨C,fun i=>kY (ps.getD i []) (ws.getD i 0),os,words iS vs 0⟩
end
end Go.At
namespace Go.Sc
open Go Go.Ab Go.Is Go.At
section
theorem pD {c:UInt8}:∀l:List (List UInt8),Lib.join l [c]=iX c l
 |[]=>rfl
 |w::ws=>by
  rw[Lib.join_cons];show w++(ws.map ([c]++·)).flatten=w++ws.flatMap fun v=>c::v;rw[List.flatMap_def];rfl
def jO (l:List Int):List UInt8:=iX 32 (l.map Lib.itoa)
theorem tW {x:Int} {l:List Int}:jO (x::l)=Lib.itoa x++cZ l:=by
 show Lib.itoa x++(l.map Lib.itoa).flatMap (fun v=>32::v)=_;rw[List.flatMap_map];rfl
theorem gP:∀{l:List Int},(∀v∈l,dN v)->(cZ l).length<=21*l.length
 |[],_=>by simp[cZ]
 |x::l,h=>by
  have b:=gP fun v a=>h v (List.mem_cons_of_mem _ a);have c:=tY (h x List.mem_cons_self);have:cZ (x::l)=32::Lib.itoa x++cZ l:=rfl;rw[this];simp only[List.length_cons,List.length_append];omega
theorem mR {l:List Int} (h:∀v∈l,dN v):(jO l).length<=21*l.length:=by
 cases l with
 |nil=>simp[jO,iX]
 |cons x l=>
  rw[tW];have b:=gP fun v a=>h v (List.mem_cons_of_mem _ a);have c:=tY (h x List.mem_cons_self);simp only[List.length_cons,List.length_append];omega
def vA (w:List UInt8) (l:List Int):List UInt8:=w++cZ l++[10]
def se (x:Ev):List Int:=[x.core,x.at',x.op,x.world,x.word,x.value,x.code]
end
end Go.Sc
namespace Go.Ct
open Go Go.Ab Go.Hm
section
variable {n ways:Nat} {S:Nat->List Th} {s:tO} {C:aZ} {core:Int}
structure jc (ways:Nat) (l:List Th):Prop where
 len:l.length<=ways
 st:∀t∈l,1<=t.2.st/\t.2.st<=4
 nd:(l.map (·.1)).Nodup
def Pl (n:Nat) (S:Nat->List Th):Prop:=∀i t,t∈S i->0<=t.1/\setOf n t.1=i
structure Good (n ways:Nat) (s:tO):Prop where
 xW:∀i,jc ways (s.S i)
 back:s.rh=true->0<=s.gc.st/\s.gc.st<=4
 pl:Pl n s.S
abbrev jr (C:aZ) (s:tO):Prop:=Good C.xW.toNat C.ways.toNat s
end
end Go.Ct
namespace Go.Nt
open Go Go.Ab Go.Hm
section
def M7:List (List UInt8×Int×List Int):=[
 ([],0,[0,0,0,0,0,0,0]),
  ([103,101,116,115],0,[1,2,3,0,0,0,0]),
  ([103,101,116,109],0,[1,2,3,0,0,0,0]),
  ([112,117,116],0,[1,2,4,8,9,10,0]),
  ([100,111,110,101],1,[1,2,0,0,0,0,0]),
  ([114,101,112,108,121],1,[1,2,5,8,9,10,11]),
  ([119,97,108,107],0,[1,12,0,0,0,0,0]),
  ([100,114,111,112,112,101,100],1,[1,13,0,0,0,0,0]),
  ([103,114,97,110,116],2,[1,2,4,6,8,9,0]),
  ([110,97,99,107],2,[1,2,11,0,0,0,0]),
  ([112,117,116,97,99,107],2,[1,2,0,0,0,0,0]),
  ([112,114,111,98,101],3,[1,2,7,0,0,0,0]),
  ([119,97,108,107,101,100],2,[1,8,9,12,0,0,0]),
  ([100,114,111,112],3,[1,13,0,0,0,0,0])]
def Zf (r:List UInt8×Int×List Int):List Value:= .string ⟨r.1.toArray⟩::I r.2.1::r.2.2.map I
def Vs:List Value:=M7.flatMap Zf
def qj (k:Nat):List Int:=(M7.getD k ([],0,[])).2.2
def kh (k:Nat):Int:=(M7.getD k ([],0,[])).2.1
def ws (arr:List Int):Nat->Nat->List Int
 |0,_=>[]
 |f+1,i=>if arr.getD i 0=0 then [] else arr.getD i 0::ws arr f (i+1)
def j0 (k:Nat):List Int:=ws (qj k) 7 0
def o9 (k:Int):Prop:=1<=k/\k<14
instance (k:Int):Decidable (o9 k):=by unfold o9;infer_instance
def kr (n:eC) (f:Int):Int:=
 if f=1 then n.core else if f=2 then n.line else if f=3\/f=4 then n.world else if f=5\/f=6\/f=7 then n.state else if f=8 then n.d0 else if f=9 then n.d1
 else if f=10 then(if n.Ph=true then 1 else 0) else n.no
def pj (n:eC) (f v:Int):eC:=
 if f=1 then {n with core:=v} else if f=2 then {n with line:=v} else if f=3\/f=4 then {n with world:=v} else if f=5\/f=6\/f=7 then {n with state:=v} else if f=8 then {n with d0:=v} else if f=9 then {n with d1:=v}
 else if f=10 then {n with Ph:=decide (v≠0)} else {n with no:=v}
def cm (C:aZ) (f v:Int):Prop:=
 if f=1 then 0<=v/\v<C.aS else if f=2 then 0<=v/\v<C.lines else if f=3 then 0<=v/\v<=3 else if f=4 then 0<=v/\v<=4 else if f=5 then 0<=v/\v<=4
 else if f=6 then v=1\/v=2\/v=4 else if f=7 then v=0\/v=1 else if f=10\/f=11 then v=0\/v=1 else if f=12 then 0<=v/\v<20 else if f=13 then 0<=v/\v<C.cH else True
instance (C:aZ) (f v:Int):Decidable (cm C f v):=by unfold cm;infer_instance
def U5 (C:aZ) (n:eC):List Int->eC->Bool×eC
 |[],a=>(true,a)
 |f::b,a=>if cm C f (kr n f) then U5 C n b (pj a f (kr n f)) else(false,a)
def Z6 (k:Int):eC:={eC.zero with kind:=k}
def mr (C:aZ) (n:eC):Int:=
 if o9 n.kind then(if C.Ok then(if(U5 C n (j0 n.kind.toNat) (Z6 n.kind)).1=true/\(U5 C n (j0 n.kind.toNat) (Z6 n.kind)).2=n then 0 else 10) else 10) else 15
end
end Go.Nt
namespace Go.Mc
open Go Go.Ab Go.Hm Go.At Go.Is Go.Ct Go.Nt
section
structure Cj where
 owner:Int
 locked:Bool
 deriving DecidableEq
def Cj.enc (x:Cj):List Value:=[I x.owner,.bool x.locked]
def C2:Cj:=⟨0,false⟩
structure da where
 iw:Bool
 Qi:Int
 at':Int
 kz:Bool
 known:List (Int×Int)
def xX:da:=⟨false,0,0,false,[]⟩
def Ia (x:Int×Int):List Value:=[I x.1,I x.2]
structure mT where
 core:Int
 world:Int
 call:Int
 Qi:Int
 to:Int
 then':Int
 mj:Bool
 phase:Int
 waits:Nat->Bool
def mT.enc (r:mT):List Value:=[I r.core,I r.world,I r.call,I r.Qi,I r.to,I r.then',.bool r.mj,I r.phase,.bool (r.waits 0),.bool (r.waits 1),.bool (r.waits 2),.bool (r.waits 3)]
structure Mon where
 Vb:List Cj
 runs:Nat->Option mT
def cA.next? (s:cA):Option Ins:=if s.over then none else some (Xi s.prog s.at')
def cA.ev (s:cA) (i:Nat) (x:Ins) (word value code:Int):Ev:=⟨i,s.at',x.op,s.world,word,value,code⟩
def cA.en (s:cA) (i:Nat):Option (cA×Ev):=
 match cA.next? s with
 |none=>none
 |some x=>
  if x.op=1 then some ((s.Bj x.a x.b).nY (s.at'+1),cA.ev s i x 0 x.b 0)
  else if x.op=2 then some ((s.Bj x.a (wr (s.nP x.b.toNat+s.nP x.c.toNat))).nY (s.at'+1),cA.ev s i x 0 (wr (s.nP x.b.toNat+s.nP x.c.toNat)) 0)
  else if x.op=6 then some (s.nY (s.at'+1),cA.ev s i x 0 0 0)
  else if x.op=7 then(if s.world=0 then some ((s.pn x.a).nY (s.at'+1),cA.ev s i x 0 x.a 0) else some (s.nY (s.at'+1),cA.ev s i x 0 x.a 18))
  else if x.op=9 then some (s.nY x.a,cA.ev s i x 0 x.a 0)
  else if x.op=10 then some (s.nY (if s.nP x.a.toNat=0 then x.b else s.at'+1),cA.ev s i x 0 (s.nP x.a.toNat) 0)
  else none
def qo (op:Int):Bool:=decide (op=3\/op=4\/op=5)
def cA.Bk (s:cA) (i:Nat) (value code:Int):cA×Ev×Int:=
 match cA.next? s with
 |none=>(s,qd,16)
 |some x=>
  if x.op=8 then((s.Bj x.b code).nY (s.at'+1),cA.ev s i x (s.nP x.b.toNat) (s.nP x.c.toNat) code,0)
  else if qo x.op then
   if code≠0/\code≠19 then(s,qd,1)
   else if code=19 then(s.nY (s.at'+1),cA.ev s i x (s.nP x.b.toNat) 0 19,0)
   else if x.op=4 then(s.nY (s.at'+1),cA.ev s i x (s.nP x.b.toNat) (s.nP x.a.toNat) 0,0)
   else((s.Bj x.a value).nY (s.at'+1),cA.ev s i x (s.nP x.b.toNat) value 0,0)
  else(s,qd,16)
abbrev Z7:=Nat->Nat->List eC
def kc (n:eC):Nat:=(kh n.kind.toNat).toNat
structure kL where
 mK:Nat->cA
 Qz:Nat->tO
 Te:Nat->da
 home:Er
 Wn:Mon
 Ve:Z7
 log:List Ev
abbrev kL.Ul (M:kL) (i:Nat) (s:cA):kL:={M with mK:=eG M.mK i s}
abbrev kL.V0 (M:kL) (v:Ev):kL:={M with log:=M.log++[v]}
variable (C:aZ)
def kL.Bk (M:kL) (i:Nat) (value code:Int):kL×Int:=
 let r:=cA.Bk (M.mK i) i value code
 if r.2.2≠0 then(M,r.2.2) else((M.Ul i r.1).V0 r.2.1,0)
structure Do where
 what:Int
 a:Int
 b:Int
 c:Int
 deriving DecidableEq
def Do.enc (d:Do):List Value:=[I d.what,I d.a,I d.b,I d.c]
structure MC where
 C:aZ
 mQ:List (List Ins)
 fh:List Int
 qX:List Int
 words:List Int
def MC.home (c:MC):Er:=fun i=>((nC c.C.lines i).1,At.words iS c.words 0 i)
def MC.new (c:MC):kL where
 mK:=fun i=>kY (c.mQ.getD i []) (c.fh.getD i 0)
 Qz:=fun _=>tO.new
 Te:=fun _=>xX
 home:=c.home
 Wn:=⟨c.qX.map fun o=>⟨o,false⟩,fun _=>none⟩
 Ve:=fun _ _=>[]
 log:=[]
end
end Go.Mc
namespace Go.Sc
open Go Go.Ab Go.Is Go.At Go.Mc
section
def cL (w:Int):List UInt8:=if w=0 then [115,116,101,112] else if w=1 then [100,101,108,105,118,101,114] else if w=2 then [98,101,103,105,110] else if w=3 then [102,105,110,105,115,104] else []
def kH (w:List UInt8) (l:List Int):List UInt8:=if l=[] then w++[10] else w++[32]++jO l++[10]
theorem dQ {w:List UInt8} {l:List Int}:kH w l=vA w l:=by
 unfold kH vA;cases l with
 |nil=>simp[cZ]
 |cons x l=>
  rw[tt (by simp),tW];have:cZ (x::l)=32::Lib.itoa x++cZ l:=rfl;rw[this];simp
theorem qW {w:Int}:(cL w).length<=7:=by
 unfold cL;repeat' split
 all_goals decide
theorem gG {w:List UInt8} {l:List Int} (a:∀v∈l,dN v):(kH w l).length<=w.length+21*l.length+1:=by
 rw[dQ];have:=gP a;unfold vA;simp only[List.length_append,List.length_singleton];omega
def Sg (d:Do):Prop:=dN d.what/\dN d.a/\dN d.b/\dN d.c
def Si (d:Do):List UInt8:=if d.what=1 then kH (cL d.what) [d.a,d.b,d.c] else kH (cL d.what) [d.a]
theorem Uq {d:Do} (h:Sg d):(Si d).length<=71:=by
 obtain⟨b,c,f,g⟩:=h;have j:=qW (w:=d.what);unfold Si;split;have:=gG (w:=cL d.what) (l:=[d.a,d.b,d.c]) (by intro v a;simp at a;rcases a with rfl|rfl|rfl<;>assumption);simp only[List.length_cons,List.length_nil] at this;omega;have:=gG (w:=cL d.what) (l:=[d.a]) (by intro v a;simp at a;rcases a with rfl;assumption);simp only[List.length_cons,List.length_nil] at this;omega
def pM (l:List Do):List UInt8:=l.flatMap Si
theorem yV:∀{l:List Do},(∀d∈l,Sg d)->(pM l).length<=71*l.length
 |[],_=>by simp[pM]
 |d::l,h=>by
  have b:=Uq (h d List.mem_cons_self);have c:=yV fun x a=>h x (List.mem_cons_of_mem _ a);have:pM (d::l)=Si d++pM l:=rfl;rw[this];simp only[List.length_cons,List.length_append];omega
theorem V7 {l:List Do} {i:Nat} {d:Do} (h:l[i]?=some d):pM (l.take i)++Si d=pM (l.take (i+1)):=by
 rw[List.take_add_one,h];simp[pM]
end
end Go.Sc
namespace Go.Sc
open Go Go.Ab Go.Is Go.At Go.Mc Go.Hm
section
def kE:List (List UInt8)->Option (List Int)
 |[]=>some []
 |p::a=>match gL p with
  |some v=>(kE a).map fun l=>v::l
  |none=>none
def Rj (l:List UInt8):Option (List UInt8×List Int):=match bJ 32 l with
 |[]=>none
 |w::a=>(kE a).map fun n=>(w,n)
def Cd (l w:List UInt8):Option (List Int):=match Rj l with
 |some x=>if x.1=w then some x.2 else none
 |none=>none
theorem Dz:∀{l:List Int},(∀v∈l,dN v)->kE (l.map Lib.itoa)=some l
 |[],_=>rfl
 |x::l,h=>by
  show(match gL (Lib.itoa x) with|some v=>(kE (l.map Lib.itoa)).map fun l=>v::l|none=>none)=_;rw[Bt (h x List.mem_cons_self),Dz fun v a=>h v (List.mem_cons_of_mem _ a)];rfl
theorem D7:∀{ps:List (List UInt8)} {l:List Int},kE ps=some l->ps=l.map Lib.itoa/\∀v∈l,dN v
 |[],l,h=>by cases h;exact⟨rfl,by simp⟩
 |p::ps,l,h=>by
  unfold kE at h;split at h;rename_i v k;obtain⟨m,j,rfl⟩:=Option.map_eq_some_iff.1 h;obtain⟨b,c⟩:=D7 j;obtain⟨f,g⟩:=Ar k;refine⟨by rw[List.map_cons,f,<-b],fun x a=>?_⟩;rcases List.mem_cons.1 a with rfl|a;exact g;exact c x a;cases h
theorem Eg {w:List UInt8} {l:List Int}:iX 32 (w::l.map Lib.itoa)=w++cZ l:=by
 show w++(l.map Lib.itoa).flatMap (fun v=>32::v)=_;rw[List.flatMap_map];rfl
theorem Gq {w:List UInt8} {l:List Int} (c:32∉w) (a:∀v∈l,dN v):Rj (w++cZ l)=some (w,l):=by
 have e:bJ 32 (w++cZ l)=w::l.map Lib.itoa:=by
  rw[<-Eg];refine pL _ _ c fun v b=>?_;obtain⟨y,_,rfl⟩:=List.mem_map.1 b;exact Gi (by decide) y
 unfold Rj;rw[e];show(kE (l.map Lib.itoa)).map _=_;rw[Dz a];rfl
theorem Pj {l w:List UInt8} {n:List Int} (h:Rj l=some (w,n)):l=w++cZ n/\∀v∈n,dN v:=by
 have a:=oT (c:=32) l;unfold Rj at h;split at h;cases h;rename_i o k e;obtain⟨m,j,g⟩:=Option.map_eq_some_iff.1 h;cases g;obtain⟨b,f⟩:=D7 j;rw[e,b,Eg] at a;exact⟨a.symm,f⟩
theorem yT {w:List UInt8} {l:List Int} (b:32∉w) (a:∀v∈l,dN v):Cd (w++cZ l) w=some l:=by
 unfold Cd;rw[Gq b a];show(if w=w then some l else none)=_;rw[tu rfl]
theorem yU {l w:List UInt8} {n:List Int} (h:Cd l w=some n):l=w++cZ n/\∀v∈n,dN v:=by
 unfold Cd at h;split at h;rename_i x b;split at h;rename_i a;cases h;subst a;exact Pj b;cases h;cases h
def ku (w:List UInt8) (n:List Int):Option Do:=
 if w=cL 0/\n.length=1 then some ⟨0,n.getD 0 0,0,0⟩
 else if w=cL 1/\n.length=3 then some ⟨1,n.getD 0 0,n.getD 1 0,n.getD 2 0⟩
 else if w=cL 2/\n.length=1 then some ⟨2,n.getD 0 0,0,0⟩
 else if w=cL 3/\n.length=1 then some ⟨3,n.getD 0 0,0,0⟩
 else none
def Vl (l:List UInt8):Option Do:=match Rj l with
 |some x=>ku x.1 x.2
 |none=>none
def uF (d:Do):Prop:=(0<=d.what/\d.what<=3)/\(d.what≠1->d.b=0/\d.c=0)
def N3 (d:Do):List UInt8:=cL d.what++cZ (if d.what=1 then [d.a,d.b,d.c] else [d.a])
theorem Lw {d:Do}:Si d=N3 d++[10]:=by
 unfold Si N3;split<;>rw[dQ]<;>rfl
theorem fQ {n:List Int} (h:n.length=1):n=[n.getD 0 0]:=by
 match n,h with
 |[a],_=>rfl
theorem tQ {n:List Int} (h:n.length=3):n=[n.getD 0 0,n.getD 1 0,n.getD 2 0]:=by
 match n,h with
 |[a,b,c],_=>rfl
theorem Yq {d:Do} (m:uF d) (o:Sg d):Vl (N3 d)=some d:=by
 obtain⟨w,a,b,c⟩:=d;obtain⟨k,g⟩:=m;obtain⟨_,p,r,r3⟩:=o;dsimp only at k g p r r3;have j:(32:UInt8)∉cL w:=by
  unfold cL;repeat' split
  all_goals decide
 unfold Vl N3;dsimp only;by_cases e:w=1;rw[tu e,Gq j (by intro v f;simp at f;rcases f with rfl|rfl|rfl<;>assumption)];subst e;rfl;obtain⟨rfl,rfl⟩:=g e;rw[tt e,Gq j (by intro v f;simp at f;rcases f with rfl;assumption)];have:w=0\/w=2\/w=3:=by omega
 rcases this with rfl|rfl|rfl<;>rfl
theorem Y1 {l:List UInt8} {d:Do} (h:Vl l=some d):l=N3 d/\uF d/\Sg d:=by
 unfold Vl at h;split at h;rename_i x g;obtain⟨w,n⟩:=x;obtain⟨b,j⟩:=Pj g;have a:dN 0/\dN 1/\dN 2/\dN 3:=by unfold dN;omega
 have f:∀i,dN (n.getD i 0):=fun i=>by
  rw[List.getD_eq_getElem?_getD];cases g:n[i]? with
  |none=>exact a.1
  |some v=>exact j v (List.mem_of_getElem? g)
 unfold ku at h;dsimp only at h;split at h;rename_i c;cases h;rw[fQ c.2] at b;exact⟨by rw[b,c.1];rfl,⟨by dsimp only;omega,fun _=>⟨rfl,rfl⟩⟩,a.1,f 0,a.1,a.1⟩;split at h;rename_i c;cases h;rw[tQ c.2] at b;exact⟨by rw[b,c.1];rfl,⟨by dsimp only;omega,fun k=>absurd rfl k⟩,a.2.1,f 0,f 1,f 2⟩;split at h;rename_i c;cases h;rw[fQ c.2] at b;exact⟨by rw[b,c.1];rfl,⟨by dsimp only;omega,fun _=>⟨rfl,rfl⟩⟩,a.2.2.1,f 0,a.1,a.1⟩;split at h;rename_i c;cases h;rw[fQ c.2] at b;exact⟨by rw[b,c.1];rfl,⟨by dsimp only;omega,fun _=>⟨rfl,rfl⟩⟩,a.2.2.2,f 0,a.1,a.1⟩;cases h;cases h
def Ks:List (List UInt8)->Option (List Do)
 |[]=>some []
 |l::ls=>match Vl l with
  |some d=>(Ks ls).map fun x=>d::x
  |none=>none
theorem O0:∀{l:List Do},(∀d∈l,uF d/\Sg d)->Ks (l.map N3)=some l
 |[],_=>rfl
 |d::l,h=>by
  show(match Vl (N3 d) with|some d=>(Ks (l.map N3)).map fun x=>d::x|none=>none)=_;obtain⟨a,b⟩:=h d List.mem_cons_self;rw[Yq a b,O0 fun x c=>h x (List.mem_cons_of_mem _ c)];rfl
def iA (ls:List (List UInt8)):List UInt8:=ls.flatMap fun l=>l++[10]
theorem pI {a b:List (List UInt8)}:iA (a++b)=iA a++iA b:=by simp[iA]
theorem dE {a:List UInt8} {b:List (List UInt8)}:iA (a::b)=a++[10]++iA b:=rfl
theorem zX:∀{ls:List (List UInt8)},iX 10 (ls++[[]])=iA ls
 |[]=>rfl
 |[l]=>by simp[iX,iA]
 |l::k::ls=>by
  have:=zX (ls:=k::ls);have e:iX 10 (l::k::ls++[[]])=l++10::iX 10 (k::ls++[[]]):=by simp[iX]
  rw[e,this,dE (a:=l)];simp
theorem P7 {ls:List (List UInt8)} (h:∀l∈ls,(10:UInt8)∉l):bJ 10 (iA ls)=ls++[[]]:=by
 rw[<-zX];cases ls with
 |nil=>rfl
 |cons l ls=>
  refine pL _ _ (h l List.mem_cons_self) fun v a=>?_;rcases List.mem_append.1 a with a|a;exact h v (List.mem_cons_of_mem _ a);rw[List.mem_singleton.1 a];simp
theorem Dl {t:List UInt8} {ls:List (List UInt8)} (h:bJ 10 t=ls++[[]]):t=iA ls:=by
 have:=oT (c:=10) t;rw[h,zX] at this;exact this.symm
theorem Pv:∀{ls:List (List UInt8)} {l:List Do},Ks ls=some l->iA ls=pM l/\∀d∈l,uF d/\Sg d
 |[],l,h=>by cases h;exact⟨rfl,by simp⟩
 |x::ls,l,h=>by
  unfold Ks at h;split at h;rename_i d k;obtain⟨m,o,rfl⟩:=Option.map_eq_some_iff.1 h;obtain⟨b,c⟩:=Pv o;obtain⟨f,g,j⟩:=Y1 k;refine⟨?_,fun y a=>?_⟩;rw[dE,b,f,<-Lw];rfl;rcases List.mem_cons.1 a with rfl|a;exact⟨g,j⟩;exact c y a;cases h
def mM:List UInt8:=[99,111,114,101]
def jQ:List UInt8:=[101,110,100]
def zV:List (List UInt8)->Option (List (List UInt8)×List (List UInt8))
 |[]=>none
 |l::ls=>if l=jQ then some ([],ls) else(zV ls).map fun x=>(l::x.1,x.2)
def Po (l:List UInt8) (ls:List (List UInt8)):Option ((Int×List Ins)×List (List UInt8)):=match Cd l mM with
 |some n=>if n.length≠1 then none else match zV ls with
  |some x=>if(cX (iA x.1)).2.2=0 then some ((n.getD 0 0,(cX (iA x.1)).1),x.2) else none
  |none=>none
 |none=>none
def zM (l:List UInt8):Prop:=l.take 5=[99,111,114,101,32]
instance (l:List UInt8):Decidable (zM l):=by unfold zM;infer_instance
def Ny:Nat->List (List UInt8)->Option (List (Int×List Ins)×List (List UInt8))
 |0,_=>none
 |_+1,[]=>some ([],[])
 |f+1,l::ls=>if zM l then(match Po l ls with
   |some x=>(Ny f x.2).map fun y=>(x.1::y.1,y.2)
   |none=>none) else some ([],l::ls)
def pZ (w:Int) (p:List Ins):List UInt8:=kH mM [w]++bN p++[101,110,100,10]
def fF (l:List (Int×List Ins)):List UInt8:=l.flatMap fun x=>pZ x.1 x.2
def nM (x:Int×List Ins):List (List UInt8):=(mM++cZ [x.1])::(x.2.map fI++[jQ])
theorem Ef {p:List Ins}:iA (p.map fI)=bN p:=by unfold iA bN;rw[List.flatMap_map]
theorem S0 {x:Int×List Ins}:iA (nM x)=pZ x.1 x.2:=by
 unfold nM pZ;rw[dE,pI,Ef,dQ];unfold vA;simp[iA,jQ]
theorem Oc:∀{a b:List (List UInt8)},(∀l∈a,l≠jQ)->zV (a++jQ::b)=some (a,b)
 |[],b,_=>by
  show(if jQ=jQ then _ else _)=_;rw[tu rfl]
 |l::a,b,h=>by
  show(if l=jQ then _ else(zV (a++jQ::b)).map _)=_;rw[tt (h l List.mem_cons_self),Oc fun x c=>h x (List.mem_cons_of_mem _ c)];rfl
theorem H5:∀{ls a b:List (List UInt8)},zV ls=some (a,b)->ls=a++jQ::b
 |[],a,b,h=>by cases h
 |l::ls,a,b,h=>by
  unfold zV at h;split at h;rename_i e;cases h;rw[e];rfl;obtain⟨x,f,c⟩:=Option.map_eq_some_iff.1 h;obtain⟨g,j⟩:=x;cases c;rw[H5 f];rfl
theorem Uo {x:Ins} (b:xE x.op=true):fI x≠jQ:=by
 intro h;have a:(fI x).head?=some 101:=by rw[h];rfl
 have b:=of_decide_eq_true b;have c:fI x=fH x.op.toNat++cZ (used x.dV):=rfl;rw[c] at a;have:x.op.toNat=1\/x.op.toNat=2\/x.op.toNat=3\/x.op.toNat=4\/x.op.toNat=5\/x.op.toNat=6\/x.op.toNat=7\/x.op.toNat=8\/x.op.toNat=9\/x.op.toNat=10\/x.op.toNat=11:=by omega
 rcases this with e|e|e|e|e|e|e|e|e|e|e<;>rw[e] at a<;>revert a<;>simp[fH,opsL]
def Iy (x:Int×List Ins):Prop:=dN x.1/\(∀y∈x.2,y.dN)/\(eT x.2).2=0
theorem Ez {p:List Ins} (h:(eT p).2=0):(eT p).1=bN p/\∀x∈p,xE x.op=true:=by
 unfold eT at h ⊢;split at h;rename_i a;rw[tu a];exact⟨rfl,fun x b=>qS ((Is.eK a).2 x b)⟩;rename_i a;exact absurd h a
theorem Zd {x:Int×List Ins} {ls:List (List UInt8)} (h:Iy x):Po (mM++cZ [x.1]) (x.2.map fI++jQ::ls)=some (x,ls):=by
 obtain⟨c,f,a⟩:=h;obtain⟨g,j⟩:=Ez a;have e:Cd (mM++cZ [x.1]) mM=some [x.1]:=yT (by decide) (by intro v m;rw[List.mem_singleton.1 m];exact c);have b:=Hj f a;rw[g] at b;unfold Po;rw[e];dsimp only;rw[tt (by simp),Oc fun l k=>by
  obtain⟨y,o,rfl⟩:=List.mem_map.1 k;exact Uo (j y o)]
 dsimp only;rw[Ef,b,tu rfl];rfl
theorem N8:∀{l:List (Int×List Ins)} {r:List (List UInt8)} {f:Nat},l.length<f->(∀x∈l,Iy x)->(∀y∈r.head?,¬zM y)->Ny f (l.flatMap nM++r)=some (l,r)
 |_,_,0,b,_,_=>by omega
 |[],[],f+1,_,_,_=>rfl
 |[],y::r,f+1,_,_,a=>by
  show(if zM y then _ else _)=_;rw[tt (a y rfl)]
 |x::l,r,f+1,b,h,a=>by
  have e:(x::l).flatMap nM++r=(mM++cZ [x.1])::(x.2.map fI++jQ::(l.flatMap nM++r)):=by simp[nM]
  have c:zM (mM++cZ [x.1]):=rfl;rw[e];unfold Ny;rw[tu c,Zd (h x List.mem_cons_self)];dsimp only;rw[N8 (by simp at b;omega) (fun y g=>h y (List.mem_cons_of_mem _ g)) a];rfl
theorem Ov {l:List UInt8} {ls:List (List UInt8)} {x:Int×List Ins} {r:List (List UInt8)} (h:Po l ls=some (x,r)):iA (l::ls)=pZ x.1 x.2++iA r/\Iy x/\r.length<ls.length:=by
 unfold Po at h;split at h;rename_i n k;obtain⟨j,f⟩:=yU k;split at h;cases h;rename_i c;have c:=Decidable.not_not.1 c;split at h;rename_i y m;obtain⟨a,b⟩:=y;have g:=H5 m;split at h;rename_i o;cases h;obtain⟨_,g2,g3⟩:=Ka.1 o;dsimp only at g2 g3 ⊢;obtain⟨g4,g5⟩:=Ez (p:=(cX (iA a)).1) (by rw[g3]);have g4:iA a=bN (cX (iA a)).1:=by rw[<-g4,g3]
 refine⟨?_,⟨?_,g2,by rw[g3]⟩,by rw[g];simp;omega⟩;rw[dE,g,pI,dE,j];conv=>lhs;rw[fQ c]
 unfold pZ;rw[<-g4];rw[dQ];unfold vA jQ;simp;rw[fQ c] at f;exact f _ (by simp);cases h;cases h;cases h
theorem Oa:∀{f:Nat} {ls r:List (List UInt8)} {l:List (Int×List Ins)},Ny f ls=some (l,r)->iA ls=fF l++iA r/\∀x∈l,Iy x
 |0,_,_,_,h=>by cases h
 |f+1,[],r,l,h=>by cases h;exact⟨rfl,by simp⟩
 |f+1,y::ls,r,l,h=>by
  unfold Ny at h;split at h;split at h;rename_i x k;obtain⟨z,m,j⟩:=Option.map_eq_some_iff.1 h;obtain⟨o,p⟩:=x;obtain⟨t,z2⟩:=z;cases j;obtain⟨a,b,_⟩:=Ov k;obtain⟨c,g⟩:=Oa m;refine⟨?_,fun u hu=>?_⟩;rw[a,c,<-List.append_assoc];rfl;rcases List.mem_cons.1 hu with rfl|hu;exact b;exact g u hu;cases h;cases h;exact⟨rfl,by simp⟩
def rY (C:aZ):List Int:=[C.aS,C.cH,C.xW,C.ways,C.depth,C.entries,C.aF]
def kO:List UInt8:=[99,111,110,102,105,103]
def kQ:List UInt8:=[111,119,110,101,114,115]
def oY:List UInt8:=[119,111,114,100,115]
def nS (C:aZ) (os vs:List Int):List UInt8:=kH kO (rY C)++kH kQ os++kH oY vs
def gE (C:aZ) (os vs:List Int) (l:List (Int×List Ins)) (dl:List Do):List UInt8:=nS C os vs++fF l++pM dl
def Au (n:List Int):aZ:=⟨n.getD 0 0,n.getD 1 0,n.getD 2 0,n.getD 3 0,n.getD 4 0,n.getD 5 0,n.getD 6 0⟩
structure C5 where
 C:aZ
 os:List Int
 vs:List Int
 cs:List (Int×List Ins)
 ds:List Do
def Sj:List (List UInt8)->Option ((aZ×List Int×List Int)×List (List UInt8))
 |a::b::c::r=>match Cd a kO with
  |some n=>if n.length=7 then(match Cd b kQ with
   |some o=>(match Cd c oY with
    |some v=>some ((Au n,o,v),r)
    |none=>none)
   |none=>none) else none
  |none=>none
 |_=>none
def Sf (ls:List (List UInt8)):Option C5:=match Sj ls with
 |some x=>match Ny (x.2.length+1) x.2 with
  |some y=>match Ks y.2 with
   |some d=>some ⟨x.1.1,x.1.2.1,x.1.2.2,y.1,d⟩
   |none=>none
  |none=>none
 |none=>none
def C5.Good (s:C5):Prop:=(∀v∈rY s.C,dN v)/\(∀v∈s.os,dN v)/\(∀v∈s.vs,dN v)/\(∀x∈s.cs,Iy x)/\∀d∈s.ds,uF d/\Sg d
def qL (s:C5):List (List UInt8):=(kO++cZ (rY s.C))::(kQ++cZ s.os)::(oY++cZ s.vs)::(s.cs.flatMap nM++s.ds.map N3)
theorem Ui {l:List (Int×List Ins)}:iA (l.flatMap nM)=fF l:=by
 induction l with
 |nil=>rfl
 |cons x l a=>
  rw[List.flatMap_cons,pI,a,S0];rfl
theorem Wt {l:List Do}:iA (l.map N3)=pM l:=by
 unfold iA pM;rw[List.flatMap_map];congr 1;funext d;exact Lw.symm
theorem Mo {s:C5}:iA (qL s)=gE s.C s.os s.vs s.cs s.ds:=by
 unfold qL gE nS;rw[dE,dE,dE,pI,Ui,Wt];simp only[dQ];unfold vA;simp
theorem tS {l:List Int}:(10:UInt8)∉cZ l:=by
 intro h;unfold cZ at h;obtain⟨v,_,b⟩:=List.mem_flatMap.1 h;rcases List.mem_cons.1 b with a|a;exact absurd a (by decide);exact Gi (by decide) v a
theorem zD {a b:List UInt8} (c:(10:UInt8)∉a) (hb:(10:UInt8)∉b):(10:UInt8)∉a++b:=fun h=>by
 rcases List.mem_append.1 h with h|h;exact c h;exact hb h
theorem Wg {s:C5} (h:s.Good):∀l∈qL s,(10:UInt8)∉l:=by
 obtain⟨_,_,_,b,g⟩:=h;intro l a;unfold qL at a;rcases List.mem_cons.1 a with rfl|a;exact zD (by decide) tS;rcases List.mem_cons.1 a with rfl|a;exact zD (by decide) tS;rcases List.mem_cons.1 a with rfl|a;exact zD (by decide) tS;rcases List.mem_append.1 a with a|a;obtain⟨x,c,a⟩:=List.mem_flatMap.1 a;unfold nM at a;rcases List.mem_cons.1 a with rfl|a;exact zD (by decide) tS;rcases List.mem_append.1 a with a|a;obtain⟨y,f,rfl⟩:=List.mem_map.1 a;exact Gy ((Ez (b x c).2.2).2 y f);rw[List.mem_singleton.1 a];decide
 .obtain⟨d,j,rfl⟩:=List.mem_map.1 a;refine zD ?_ tS;unfold cL;repeat' split
  all_goals decide
theorem Ki {s:C5} (h:s.Good):bJ 10 (gE s.C s.os s.vs s.cs s.ds)=qL s++[[]]/\Sf (qL s)=some s:=by
 refine⟨by rw[<-Mo];exact P7 (Wg h),?_⟩;obtain⟨m,o,p,r,b⟩:=h;have f:Cd (kO++cZ (rY s.C)) kO=some (rY s.C):=yT (by decide) m;have g:Cd (kQ++cZ s.os) kQ=some s.os:=yT (by decide) o;have j:Cd (oY++cZ s.vs) oY=some s.vs:=yT (by decide) p;have k:Sj (qL s)=some ((s.C,s.os,s.vs),s.cs.flatMap nM++s.ds.map N3):=by
  unfold qL Sj;dsimp only;rw[f];dsimp only;rw[tu (show(rY s.C).length=7 from rfl),g];dsimp only;rw[j];rfl
 have c:s.cs.length<=(s.cs.flatMap nM++s.ds.map N3).length:=by
  rw[List.length_append];have:∀l:List (Int×List Ins),l.length<=(l.flatMap nM).length:=by
   intro l;induction l with
   |nil=>simp
   |cons x l t=>rw[List.flatMap_cons,List.length_append];simp only[nM,List.length_cons];omega
  have:=this s.cs;omega
 unfold Sf;rw[k];dsimp only;rw[N8 (by omega) r fun y a=>?_];dsimp only;rw[O0 b];cases hd:s.ds with
 |nil=>rw[hd] at a;cases a
 |cons d l=>
  rw[hd] at a;cases a;obtain⟨⟨g1,_⟩,_⟩:=b d (by rw[hd];exact List.mem_cons_self);have:d.what=0\/d.what=1\/d.what=2\/d.what=3:=by omega
  unfold zM N3;rcases this with e|e|e|e<;>rw[e]<;>simp[cL]
theorem Yl {ls:List (List UInt8)} {s:C5} (h:Sf ls=some s):iA ls=gE s.C s.os s.vs s.cs s.ds/\s.Good:=by
 unfold Sf at h;split at h;rename_i x j;split at h;rename_i y B;split at h;rename_i d t;cases h;obtain⟨⟨C,o,v⟩,r⟩:=x;obtain⟨U,V⟩:=y;obtain⟨d1,d2⟩:=Pv t;obtain⟨k,c2⟩:=Oa B;dsimp only at k d1 ⊢;unfold Sj at j;split at j;rename_i a b c Q;split at j;rename_i n u;split at j;rename_i p;split at j;rename_i O z;split at j;rename_i T A;cases j;obtain⟨D,E⟩:=yU u;obtain⟨I,J⟩:=yU z;obtain⟨v1,v2⟩:=yU A;have m:rY (Au n)=n:=by
  match n,p with
  |[a,b,c,d,e,f,g],_=>rfl
 refine⟨?_,by rw[m];exact E,J,v2,c2,d2⟩;rw[dE,dE,dE,k,d1,D,I,v1];unfold gE nS;rw[m];simp only[dQ];unfold vA;simp;cases j;cases j;cases j;cases j;cases j;cases h;cases h;cases h
end
end Go.Sc
namespace Go.Ct
open Go Go.Ab
section
def Uv (s:Array UInt8) (a b c d:Bool) (x y z:Int):List Value:=[.string ⟨s⟩,.bool a,.bool b,.bool c,.bool d,I x,I y,I z]
def Zu:List Value:=Uv #[73] false false false false 0 0 0++Uv #[83] true false false false 0 1 0++Uv #[69] true true false true 4 1 0++Uv #[79] true false true true 0 3 0++Uv #[77] true true true true 4 3 0
end
end Go.Ct
namespace Go.Ct
open Go Go.Ab Go.Hm
section
variable {n ways:Nat} {S:Nat->List Th} {no:Int} {x:Z3}
end
end Go.Ct
section
namespace Go.Hm
open Go Go.Ab
structure qm (k:Nat) (r:Row):Prop where
 core:0<=r.served.core/\r.served.core<4
 owner: -1<=r.owner/\r.owner<4
 waits:∀n∈r.waits,n.line=k/\(0<=n.core/\n.core<4)/\(n.kind=0\/n.kind=1\/n.kind=2\/n.kind=3)
 apart:∀i:Nat,i<4->r.sh i=true->(i:Int)≠r.owner
 want:r.busy=true->r.granted=false->r.served.kind=0\/r.served.kind=2\/r.owner≠r.served.core
 still:r.granted=true\/r.busy=false->r.quiet=true
 gb:r.granted=true->r.busy=true
end Go.Hm
namespace Go.Hm
open Go Go.Ab
end Go.Hm
end
namespace Go.Mc
open Go Go.Ab Go.Hm Go.At Go.Is Go.Ct Go.Nt
section
structure ji (C:aZ) (m:Mon):Prop where
 len:m.Vb.length=C.cH.toNat
 own:∀x∈m.Vb,0<=x.owner/\x.owner<=4
 run:∀g r,m.runs g=some r->(g:Int)<C.cH/\r.Qi=g/\(r.phase=1\/r.phase=2)/\(0<=r.core/\r.core<C.aS)/\(0<=r.then'/\r.then'<=4)
def sf (Cf:aZ) (F:Z7):Prop:=∀c w,(F c w).length<=Cf.depth
structure oq (C:aZ) (n:eC):Prop where
 mr:mr C n=0
 word:n.kind=12->0<=n.d0/\n.d0<=1000000
def sw (C:aZ) (N:Nat) (H:Er):Prop:=∀l,l<C.lines->qm l (H l).1/\(H l).1.waits.length<=N
structure ql (C:aZ) (F:Z7):Prop where
 len:sf C F
 note:∀c w,∀n∈F c w,oq C n/\n.core.toNat=c/\kc n=w
def kq (C:aZ) (c:da):Prop:=(c.known.length:Int)<=C.entries/\0<=c.Qi/\c.Qi<C.cH
structure Cc (C:aZ) (N:Nat) (M:kL):Prop where
 Wn:ji C M.Wn
 Rg:∀i:Nat,(i:Int)<C.aS->(M.mK i).Ok
 rl:∀i:Nat,(i:Int)<C.aS->jr C (M.Qz i)
 mr:∀i:Nat,(i:Int)<C.aS->kq C (M.Te i)
 home:sw C N M.home
 Ve:ql C M.Ve
 log:M.log.length<=N
variable {C:aZ} {N:Nat} {M:kL}
end
section
variable {C:aZ} {N:Nat} {M:kL}
theorem Cc.mono {K:Nat} (h:Cc C N M) (b:N<=K):Cc C K M:=⟨h.Wn,h.Rg,h.rl,h.mr,fun l a=>⟨(h.home l a).1,Nat.le_trans (h.home l a).2 b⟩,h.Ve,Nat.le_trans h.log b⟩
theorem Xf {α:Type} {P:α->Prop} {s:Nat->α} {i:Nat} {t:α} {n:Int} (h:∀j:Nat,(j:Int)<n->P (s j)) (b:P t):∀j:Nat,(j:Int)<n->P (eG s i t j):=by
 intro j a;unfold eG;grind
theorem Cc.Ul (h:Cc C N M) {i:Nat} {c:cA} (a:c.Ok):Cc C N (M.Ul i c):={h with Rg:=Xf h.Rg a}
theorem Cc.V0 (h:Cc C N M) {v:Ev}:Cc C (N+1) (M.V0 v):={h.mono (Nat.le_succ N) with log:=by show(M.log++[v]).length<=N+1;rw[List.length_append,List.length_singleton];have:=h.log;omega}
end
section
variable {C:aZ} {N:Nat} {M:kL}
def rp (i:Nat) (s:cA) (x:Ev):Option cA:=match cA.en s i with
 |some r=>if r.2=x then some r.1 else none
 |none=>if(cA.Bk s i x.value x.code).2.2=0/\(cA.Bk s i x.value x.code).2.1=x then some (cA.Bk s i x.value x.code).1 else none
def rc (m:Mon) (g:Nat):Option Int:=(m.runs g).map mT.core
structure oz (M:kL):Prop where
 op:∀g c,rc M.Wn g=some c->∃x,cA.next? (M.mK c.toNat)=some x/\x.op=8
 one:∀g g' c,rc M.Wn g=some c->rc M.Wn g'=some c->g=g'
end
section
variable {C:aZ} {N:Nat} {M M':kL} {d:Do}
def gx (i:Nat) (s:cA):List Ev->Option cA
 |[]=>some s
 |x::l=>if x.core=i then(match rp i s x with|some t=>gx i t l|none=>none) else gx i s l
def th (C:aZ) (S:Nat->cA) (M:kL):Prop:=∀i:Nat,(i:Int)<C.aS->gx i (S i) M.log=some (M.mK i)
structure r7 (C:aZ) (S:Nat->cA) (N:Nat) (M:kL):Prop where
 inv:Cc C N M
 wait:oz M
 gx:th C S M
theorem r7.len {S:Nat->cA} (h:r7 C S N M):M.log.length<=N:=h.inv.log
end
end Go.Mc
namespace Go.Mc
open Go Go.Ab Go.Hm Go.At Go.Is Go.Ct Go.Nt Go.Sc
section
variable {C:aZ} {N:Nat} {M:kL}
def lR (d:Ln):Prop:=dN d.1/\dN d.2
def nR (n:eC):Prop:=dN n.d0/\dN n.d1
structure cR (c:tO):Prop where
 S:∀i,∀t∈c.S i,lR t.2.d
 g:lR c.gc.d
structure wR (r:Row):Prop where
 d:dN r.d0/\dN r.d1
 w:∀n∈r.waits,nR n
def hR (H:Er):Prop:=∀l,wR (H l).1/\lR (H l).2
structure sR (s:cA):Prop where
 r:∀k,dN (s.nP k)
 w:dN s.world
 p:∀x∈s.prog,x.dN
def eR (v:Ev):Prop:=∀x∈se v,dN x
def fR (F:Z7):Prop:=∀c w,∀n∈F c w,nR n
structure DR (M:kL):Prop where
 Rg:∀i,sR (M.mK i)
 rl:∀i,cR (M.Qz i)
 home:hR M.home
 Ve:fR M.Ve
 log:∀v∈M.log,eR v
theorem Xd {x:Int} (h: -1000000<=x/\x<=1000000):dN x:=by unfold dN;omega
theorem nu {α:Type} {P:α->Prop} {s:Nat->α} {i:Nat} {t:α} (h:∀j,P (s j)) (a:P t):∀j,P (eG s i t j):=by
 intro j;unfold eG;split;exact a;exact h j
theorem DR.Ul (h:DR M) {i:Nat} {c:cA} (a:sR c):DR (M.Ul i c):={h with Rg:=nu h.Rg a}
theorem DR.V0 (h:DR M) {v:Ev} (b:eR v):DR (M.V0 v):={h with log:=fun x a=>(List.mem_append.1 a).elim (h.log x) fun a=>by rw[List.mem_singleton.1 a];exact b}
end
end Go.Mc
namespace Go.Ab
open Go Go.RowKit Go.ChangeShapes Go.WideShapes Go.ChangeAt
section
variable {P:Program} {H:Type} {enc:TypeId×Value->H} {w:World} {base:Nat} {spare:Nat->Bool} {held:Bool}
theorem Xo {ρ:dR} {v:Value}:aA ρ top v:=by simp[top,aA]
theorem Pb {ρ:dR}:∀{l c:List Value},l.length=c.length->(∀(j:Nat) (u v:Value),l[j]?=some u->c[j]?=some v->aA ρ u v)->aC ρ l c
 |[],[],_,_=>aC.nil
 |u::l,v::c,h,k=>aC.cons (k 0 u v rfl rfl) (Pb (by simpa using h) fun j a b f g=>k (j+1) a b (by simpa using f) (by simpa using g))
 |[],_::_,h,_=>by simp at h
 |_::_,[],h,_=>by simp at h
def gn (P:Program) (w:World) (ρ:dR) (r:OB):Prop:=
 (∀o,r.1=some o->∀b s,r.2=some (b,s)->∃a,w.heap[b]?=some a/\mB P ρ s o a)/\(∀b s,r.2=some (b,s)->b<w.heap.size)
theorem Ms.at' {r:OB} (h:Ms P w r) (ρ:dR):gn P w ρ r:=⟨fun o g b s f=>let⟨j,a,c⟩:=h.1 o g b s f;⟨j,a,c ρ⟩,h.2⟩
theorem Q9 {g:Nat} {gl:Nat->Option hZ} {rs:List OB} (y:P.globals.size<=g) (u:g<=w.heap.size) (f:Yg P g gl w) (k:∀r∈rs,gn P w (kD g rs) r):Reads P (g+rs.length) (qC g gl rs) (kD g rs) w where
 gH:=fun i o j c b s a=>by
  have t:=a;unfold qC at c;unfold kD at a;split at c;rename_i h;rw[tu h] at a;cases a;obtain⟨v,m,p⟩:=f i o h c;exact⟨v,m,p _⟩;rename_i h;rw[tt h] at a;rw[List.getElem?_eq_getElem (by omega)] at c a;exact(k _ (List.getElem_mem (by omega))).1 o c b s a
 low:=fun i b s j a=>by
  unfold kD at a;split at a;cases a;omega;rw[List.getElem?_eq_getElem (by omega)] at a;exact(k _ (List.getElem_mem (by omega))).2 b s a
 none:=fun i j=>by unfold kD;rw[aab,List.getElem?_eq_none (by omega)];rfl
 iN:=fun i j=>by unfold kD;rw[aae]
def uQ (j:List (Option IntKind)) (w:World) (a:Option Addr) (len cap:Nat):Prop:=
 (a=none/\len=0/\cap=0)\/(∃x,a=some x/\len=0)\/
 ∃x cc e g,a=some x/\0<len/\x.spot=none/\len<=cap/\w.heap[x.block]?=some (.cells cc e g)/\x.off+len<=cc.size/\
  ∀i,i<len->∃b f c,cc.toList[x.off+i]?=some (.slice b f c)/\fT j w b f c
theorem Ry {t e e2:TypeId} {n fuel:Nat} {v:List (Option IntKind)} {cs:List Value} {x:DataW H×List MemPlace} (ht:P.underlying t=some (.slice e)) (he:P.underlying e=some (.slice e2)) (hf:kZ P n e2=some v) (E:P.cellsOf e2=v.length) (Z:P.cellsOf e=1) (X:0<v.length)
  (h:DataW.trod enc P w base spare held fuel t cs=some x):∃a len k,cs=[.slice a len k]/\len<=maxLen/\uQ v w a len k:=by
 rcases DataW.trod_slice ht h with⟨rfl,_⟩|⟨a,len,k,elems,rest,m,_,rfl,_,A,hl,hm,T,J,_,_⟩
 .exact⟨none,0,0,rfl,Nat.zero_le _,.inl ⟨rfl,rfl,rfl⟩⟩
 refine⟨some a,len,k,rfl,by omega,?_⟩
 rcases Nat.eq_zero_or_pos len with D|D
 .exact .inr (.inl ⟨a,rfl,D⟩)
 refine .inr (.inr ?_)
 have each:∀i,i<len->∃f j g,w.cell? (a.add i)=some (.slice f j g)/\fT v w f j g:=by
  intro i O;have r:=J i O;rw[List.getElem?_eq_getElem (by omega),Z,Option.bind_eq_some_iff] at r;obtain⟨c,p,hy⟩:=r;obtain⟨f,j,g,I,hr⟩:=Dk he hf E X hy;subst I;refine⟨f,j,g,?_,hr⟩;unfold World.cells? at p;split at p;have:=mapM_some_get p 0 0 (by simp);rw[Nat.mul_one] at this;have V:(a.add i).add 0=a.add i:=rfl;rw[V] at this;simpa using this;cases p
 obtain⟨a0,l0,c0,b,β⟩:=each 0 D
 obtain⟨cc,U,y,A,B⟩:∃cc e y,w.heap[a.block]?=some (.cells cc e y)/\a.spot=none:=by
  have Q:a.add 0=a:=rfl;rw[Q] at b;unfold World.cell? at b;split at b;rename_i c e y A;split at b;cases b;rename_i B;exact⟨c,e,y,A,by simpa using B⟩;cases b
 have u:∀o,w.cell? ⟨a.block,o,none⟩=cc[o]?:=by
  intro o;unfold World.cell?;rw[A];simp
 have z:∀i,i<len->∃f j g,cc.toList[a.off+i]?=some (.slice f j g)/\fT v w f j g:=by
  intro i O;obtain⟨f,j,g,r,Y⟩:=each i O;rw[Ma B,u] at r;exact⟨f,j,g,by rw[Array.getElem?_toList];exact r,Y⟩
 refine⟨a,cc,U,y,rfl,D,B,hl,A,?_,z⟩
 obtain⟨f,j,g,r,_⟩:=z (len - 1) (by omega)
 have:=(List.getElem?_eq_some_iff.1 r).1
 simp at this
 omega
theorem Al {W:World} {t:TypeId} {fs:Array Field} {i:Nat} {f:Field} {l:List Value} {d:DataW H} {p:List MemPlace} {n:Nat} {k:List (Option IntKind)} (r:P.underlying t=some (.struct fs)) (g:fs[i]?=some f) (o:kZ P n f.type=some k)
  (h:DataW.Trod enc P W 0 (fun _=>true) true t (.agg ⟨l⟩) d p):Flat k ((l.drop f.offset).take (P.cellsOf f.type)):=by
 obtain⟨fuel,b⟩:=h
 obtain⟨v,m,_,_,y,u,a⟩:=DataW.trod_struct r b
 have j:=a i f g
 have c:i<v.length:=by rw[u];exact(Array.getElem?_eq_some_iff.1 g).1
 rw[List.getElem?_eq_getElem c] at j
 have:=Dg n o j
 simpa [Value.cells] using this
theorem Af {W:World} {t e e2:TypeId} {fs:Array Field} {i:Nat} {f:Field} {l:List Value} {d:DataW H} {p:List MemPlace} {n:Nat} {j:List (Option IntKind)} (O:P.underlying t=some (.struct fs)) (u:fs[i]?=some f)
  (Q:P.underlying f.type=some (.slice e)) (r:P.underlying e=some (.slice e2)) (A:P.cellsOf f.type=1) (B:P.cellsOf e=1) (E:kZ P n e2=some j) (D:P.cellsOf e2=j.length) (y:0<j.length)
  (h:DataW.Trod enc P W 0 (fun _=>true) true t (.agg ⟨l⟩) d p):∃a len b,l[f.offset]?=some (.slice a len b)/\len<=maxLen/\uQ j W a len b:=by
 obtain⟨fuel,k⟩:=h
 obtain⟨U,m,_,_,X,T,c⟩:=DataW.trod_struct O k
 have v:=c i f u
 have o:i<U.length:=by rw[T];exact(Array.getElem?_eq_some_iff.1 u).1
 rw[List.getElem?_eq_getElem o] at v
 obtain⟨a,len,b,g,I,J⟩:=Ry Q r E D B y v
 refine⟨a,len,b,?_,I,J⟩
 rw[A] at g
 have V:(Value.cells (.agg ⟨l⟩)).toList=l:=by simp[Value.cells]
 have:=congrArg (fun z=>z[0]?) g
 simpa [Value.cells] using this
structure ka (P:Program) (w:World) (ks:List (Option IntKind)) (k0:Nat) (a:Option Addr) (len cap:Nat) (r:OB) (rs:List OB) (t:Nat->Value) (vs:List Value) (ns:List Nat) (at':Nat->Nat->List Value):Prop where
 ok:∀x∈rs,Ms P w x
 out:∀ρ:dR,(∀i x,rs[i]?=some x->ρ (k0+i)=x.2)->gn P w ρ r
 rel:∀ρ k,ρ k=r.2->aA ρ (t k) (.slice a len cap)
 ib:vs.length=len
 Ve:ns.length=len
 flat:∀i n,ns[i]?=some n->∀j,j<n->Flat ks (at' i j)
 old:∀(G:Bg) k,k<G.base->G.old k=r.1->(∀i x,rs[i]?=some x->k0+i<G.base/\G.old (k0+i)=x.1)->
  eJ G 1 (t k) len (fun i=>[vs.getD i undef])/\Qd G (t k) len/\∀i v n,vs[i]?=some v->ns[i]?=some n->eJ G ks.length v n (at' i)/\Qd G v n
theorem Sn (P:Program) {D:List (Option IntKind)} {a:Option Addr} {len cap:Nat} (m:Nat) (h:uQ D w a len cap):∃r rs t vs ns at',ka P w D m a len cap r rs t vs ns at':=by
 rcases h with⟨rfl,rfl,rfl⟩|⟨x,rfl,rfl⟩|⟨x,cc,e,U,rfl,h0,hs,hl,hb,δ,hf⟩;exact⟨(none,none),[],fun _=> .slice none 0 0,[],[],fun _ _=>[],⟨fun x hx=>(by cases hx),fun ρ _=>⟨fun o h=>(by cases h),fun b s h=>(by cases h)⟩,fun ρ k _=>(by simp only[aA]),rfl,rfl,fun i n A=>(by simp at A),fun G k _ _ _=>⟨⟨none,0,rfl,fun i c=>(by omega)⟩,.inl ⟨rfl,rfl⟩,fun i v n f=>(by simp at f)⟩⟩⟩;refine⟨(none,none),[],fun _=> .slice (some ⟨0,0,some 0⟩) 0 0,[],[],fun _ _=>[],⟨fun x hx=>(by cases hx),fun ρ _=>⟨fun o h=>(by cases h),fun b s h=>(by cases h)⟩,fun ρ k _=>?_,rfl,rfl,fun i n A=>(by simp at A),fun G k _ _ _=>⟨⟨some ⟨0,0,some 0⟩,0,rfl,fun i c=>(by omega)⟩,.inr (.inl ⟨rfl,rfl⟩),fun i v n f=>(by simp at f)⟩⟩⟩;simp only[aA];exact⟨trivial,trivial,x,cap,fun h=>by omega,fun h=>by omega,rfl⟩;have I:∀i,∃(y:OB×(Nat->Value)×(Nat->List Value)×Nat×Value),i<len->cc.toList[x.off+i]?=some y.2.2.2.2/\Ms P w y.1/\(∀ρ k,ρ k=y.1.2->aA ρ (y.2.1 k) y.2.2.2.2)/\(∀j,j<y.2.2.2.1->Flat D (y.2.2.1 j))/\
   ∀(G:Bg) k,k<G.base->G.old k=y.1.1->eJ G D.length (y.2.1 k) y.2.2.2.1 y.2.2.1/\Qd G (y.2.1 k) y.2.2.2.1:=by
  intro i
  by_cases c:i<len
  .obtain⟨a',l',c',p,V⟩:=hf i c;obtain⟨r,t,X,h4,at',h5,h6⟩:=qP P V;exact⟨(r,t,at',l',.slice a' l' c'),fun _=>⟨p,X,h4,h5,h6⟩⟩
  .exact⟨((none,none),fun _=>undef,fun _=>[],0,undef),fun h=>absurd h c⟩
 obtain⟨Y,O⟩:∃Y:Nat->OB×(Nat->Value)×(Nat->List Value)×Nat×Value,∀i,i<len->cc.toList[x.off+i]?=some (Y i).2.2.2.2/\Ms P w (Y i).1/\(∀ρ k,ρ k=(Y i).1.2->aA ρ ((Y i).2.1 k) (Y i).2.2.2.2)/\(∀j,j<(Y i).2.2.2.1->Flat D ((Y i).2.2.1 j))/\
   ∀(G:Bg) k,k<G.base->G.old k=(Y i).1.1->eJ G D.length ((Y i).2.1 k) (Y i).2.2.2.1 (Y i).2.2.1/\Qd G ((Y i).2.1 k) (Y i).2.2.2.1:=
  ⟨fun i=>(I i).choose,fun i c=>(I i).choose_spec c⟩
 have B:∀{α:Type} (g:Nat->α) (i:Nat) (z:α),((List.range len).map g)[i]?=some z->i<len/\z=g i:=by
  intro α g i z T;have c:i<len:=by have:=(List.getElem?_eq_some_iff.1 T).1;simpa using this
  rw[List.getElem?_map,List.getElem?_range c] at T;simp only[Option.map_some,Option.some.injEq] at T;exact⟨c,T.symm⟩
 refine⟨(some (.cells ((List.range cc.size).map fun j=>if x.off<=j/\j<x.off+len then(Y (j - x.off)).2.1 (m+(j - x.off)) else top) e U false),some (x.block,(0,0))),(List.range len).map fun i=>(Y i).1,fun k=> .slice (some ⟨k,x.off,none⟩) len cap,
     (List.range len).map fun i=>(Y i).2.1 (m+i),(List.range len).map fun i=>(Y i).2.2.2.1,fun i=>(Y i).2.2.1,⟨?_,?_,?_,by simp,by simp,?_,?_⟩⟩
 intro y hy;obtain⟨i,c,rfl⟩:=List.mem_map.1 hy;exact(O i (List.mem_range.1 c)).2.1;intro ρ hρ;refine⟨fun o ho b s J=>?_,fun b s J=>?_⟩;cases ho;cases J;refine⟨_,hb,cc,rfl,?_,by simp,fun h=>by cases h⟩;rw[List.drop_zero,List.take_of_length_le (by simp)];refine Pb (by simp) fun j u v Q f=>?_;rw[List.getElem?_map] at Q;have Z:j<cc.size:=by have:=(List.getElem?_eq_some_iff.1 f).1;simpa using this
 rw[List.getElem?_range Z] at Q;simp only[Option.map_some,Option.some.injEq] at Q;subst Q;split;rename_i hc;obtain⟨p,_,X,_,_⟩:=O (j - x.off) (by omega);rw[show x.off+(j - x.off)=j by omega,f] at p;simp only[Option.some.injEq] at p;rw[p];refine X ρ _ (hρ (j - x.off) _ ?_);rw[List.getElem?_map,List.getElem?_range (by omega)];rfl;exact Xo;cases J;exact(Array.getElem?_eq_some_iff.1 hb).1;intro ρ k J;simp only[aA];exact⟨x.block,(0,0),cap,J,Nat.le_refl _,by simp,by cases x;simp at hs;subst hs;rfl⟩;intro i n A j Z;obtain⟨c,rfl⟩:=B _ i n A;exact(O i c).2.2.2.1 j Z;intro G k hk hg E;refine⟨⟨_,_,rfl,fun i c=>⟨k,x.off,_,rfl,⟨hk,e,U,false,hg⟩,?_,by simp;omega⟩⟩,.inr (.inr ⟨k,x.off,cap,_,e,U,rfl,h0,hl,hk,hg⟩),fun i v n f A=>?_⟩;have γ:x.off+i*1<cc.size:=by omega
 have β:x.off+i*1<((List.range cc.size).map fun j=>if x.off<=j/\j<x.off+len then(Y (j - x.off)).2.1 (m+(j - x.off)) else top).length:=by simp;omega
 rw[List.drop_eq_getElem_cons β,List.take_succ_cons,List.take_zero];have e1:((List.range len).map fun i=>(Y i).2.1 (m+i)).getD i undef=(Y i).2.1 (m+i):=by
  rw[List.getD_eq_getElem?_getD,List.getElem?_map,List.getElem?_range c];rfl
 show[_]=[((List.range len).map fun i=>(Y i).2.1 (m+i)).getD i undef];rw[e1];simp only[List.getElem_map,List.getElem_range];rw[aae,show x.off+i*1 - x.off=i by omega];obtain⟨c,rfl⟩:=B _ i v f;obtain⟨_,rfl⟩:=B _ i n A;obtain⟨p,V⟩:=E i (Y i).1 (by rw[List.getElem?_map,List.getElem?_range c];rfl);exact(O i c).2.2.2.2 G (m+i) p V
end
end Go.Ab
section
namespace Go.Ab
variable {P:Program} {K:FuncId->List Value->Option dU} {G:Bg} {h:AH} {L L' M:List HP}
variable {α:Type} {enc:α->List Value} {W:Nat} [F:Fx enc W] {e:TypeId}
end Go.Ab
end
namespace Go.Ab
open Go.Ct
section
variable {P:Program} {K:FuncId->List Value->Option dU} {G:Bg} {h:AH} {L L' M:List HP}
end
end Go.Ab
namespace Go.Ab
open Go.RowKit
section
variable {P:Program} {K:FuncId->List Value->Option dU} {G:Bg} {h h':AH} {L L' M:List HP}
noncomputable def B7 (G:Bg) (h:AH):Bg:=⟨h.next,h.get,G.hb⟩
theorem Hs.B7 (a:Hs G h L):Hs (B7 G h) h [] where
 base:=⟨a.base.1,Nat.le_trans a.base.2 a.wf⟩
 old:=fun _ _=>rfl
 wf:=Nat.le_refl _
 fr:=a.fr
 res:=⟨aU.emp,rfl,⟨fun b o v h=>by simp[aU.emp] at h,fun b h=>by simp[aU.emp] at h,fun b e x n h=>by simp[aU.emp] at h,fun b o h=>by simp[aU.emp] at h⟩⟩
theorem Hs.Ij (p:Hs G h L) (j:Hs (Go.Ab.B7 G h) h' M):Hs G h' (M++L):=by
 obtain⟨r,O,i1⟩:=p.res;obtain⟨y,Q,i2⟩:=j.res;have m:∀b,h.get b≠none->b<h.next:=fun b f=>by
  rcases Nat.lt_or_ge b h.next with k|k
  exact k;exact absurd (p.fr b k) f
 have A:∀b t,r.tok b=some t->b<h.next:=fun b t f=>by
  cases t with
  |free=>exact(i1.free b f).2.1
  |mt e x n=>obtain⟨_,c,g,_⟩:=i1.mt b e x n f;exact m b (by rw[g];simp)
  |vG o=>obtain⟨_,g,_⟩:=i1.vG b o f;exact m b (by rw[g];simp)
 have B:∀b t,y.tok b=some t->h.next<=b:=fun b t f=>by
  cases t with
  |free=>exact(i2.free b f).1
  |mt e x n=>exact(i2.mt b e x n f).1
  |vG o=>exact(i2.vG b o f).1
 have D:∀b o v,r.cell b o=some v->b<h.next:=fun b o v f=>by
  obtain⟨_,_,_,_,g,_⟩:=i1.cell b o v f;exact m b (by rw[g];simp)
 have E:y.mV r:=by
  refine⟨fun b o=>?_,fun b=>?_⟩;cases k:r.cell b o with
  |none=>exact .inr rfl
  |some v=>
   cases h4:y.cell b o with
   |none=>exact .inl rfl
   |some u=>have T:=D b o v k;have U:h.next<=b:=(i2.cell b o u h4).1;omega
  cases k:r.tok b with
  |none=>exact .inr rfl
  |some v=>
   cases h4:y.tok b with
   |none=>exact .inl rfl
   |some u=>have:=A b v k;have:=B b u h4;omega
 have J:h.next<=h'.next:=j.wf
 have same:∀b,b<h.next->h'.get b=h.get b:=fun b f=>j.old b f
 refine⟨⟨j.base.1,p.base.2⟩,fun i I=>(same i (Nat.lt_of_lt_of_le I p.wf)).trans (p.old i I),Nat.le_trans p.wf J,j.fr,y.add r,dP.2 ⟨y,r,Q,O,E,rfl⟩,(aU.dA E).2 ⟨?_,?_⟩⟩;have z:∀b,h.next<=b->G.base<=b:=fun b f=>Nat.le_trans p.wf f
 exact⟨fun b o v a=>⟨z b (i2.cell b o v a).1,(i2.cell b o v a).2⟩,fun b a=>⟨z b (i2.free b a).1,(i2.free b a).2⟩,fun b e x n a=>⟨z b (i2.mt b e x n a).1,(i2.mt b e x n a).2⟩,fun b o a=>⟨z b (i2.vG b o a).1,(i2.vG b o a).2⟩⟩;refine⟨fun b o v a=>?_,fun b a=>?_,fun b e x n a=>?_,fun b o a=>?_⟩;obtain⟨g1,g2⟩:=i1.cell b o v a;rw[<-same b (D b o v a)] at g2;exact⟨g1,g2⟩;obtain⟨g1,g2,g3⟩:=i1.free b a;exact⟨g1,Nat.lt_of_lt_of_le g2 J,(same b g2).trans g3⟩;obtain⟨g1,g2⟩:=i1.mt b e x n a;rw[<-same b (A b _ a)] at g2;exact⟨g1,g2⟩;obtain⟨g1,g2,g3⟩:=i1.vG b o a;exact⟨g1,(same b (A b _ a)).trans g2,g3⟩
structure Bg.Le (G G':Bg):Prop where
 base:G.base<=G'.base
 old:∀i,i<G.base->G'.old i=G.old i
theorem Hs.De (a:Hs G h L):G.Le (Go.Ab.B7 G h):=⟨a.wf,a.old⟩
theorem Ob.mono {G':Bg} (f:G.Le G') {b:Nat} {c:List Value} (a:Ob G b c):Ob G' b c:=
 ⟨Nat.lt_of_lt_of_le a.lt f.base,let⟨e,g,x,j⟩:=a.get;⟨e,g,x,(f.old b a.lt).trans j⟩⟩
theorem eJ.mono {G':Bg} (r:G.Le G') {W:Nat} {v:Value} {n:Nat} {at':Nat->List Value} (t:eJ G W v n at'):eJ G' W v n at':=by
 obtain⟨a,c,e,m⟩:=t;refine⟨a,c,e,fun i p=>?_⟩;obtain⟨b,o,cells,f,g,j,k⟩:=m i p;exact⟨b,o,cells,f,g.mono r,j,k⟩
theorem Y0 {W:Nat} {e:TypeId} {a:Option Addr} {c n:Nat} {cs:List Value} (hW:0<W) (v:Hs G h (cB W e a c (n,cs)::L)):eJ (Go.Ab.B7 G h) W (.slice a n c) n (fun i=>(cs.drop (i*W)).take W):=by
 refine⟨a,c,rfl,fun i A=>?_⟩;obtain⟨r,O,j,D,J,p,t⟩:=v.fst;obtain⟨B,z,j⟩:=j;simp only at B z j;rcases j with⟨E,_⟩|⟨E,_⟩|⟨u,b,g,f,ex,rfl,hle,rfl⟩;omega;omega;obtain⟨I,o⟩:=lL p t;have m:b<h.next:=by
  rcases Nat.lt_or_ge b h.next with k|k
  exact k;rw[v.fr b k] at o;cases o
 have y:(i+1)*W<=n*W:=Nat.mul_le_mul_right _ A;rw[Nat.add_mul,Nat.one_mul] at y;refine⟨b,g.length,g++cs++f,rfl,⟨m,e,(0,0),ex,o⟩,?_,by simp;omega⟩;rw[List.append_assoc,<-List.drop_drop,List.drop_left,List.drop_append_of_le_length (by omega),List.take_append_of_le_length (by rw[List.length_drop];omega)]
end
section
variable {P:Program} {K:FuncId->List Value->Option dU} {G G':Bg} {h:AH} {L L' M:List HP}
structure uS (G:Bg) (v:Value) (l:List Value):Prop where
 is:∃a c,v= .slice a l.length c
 at':0<l.length->∃b o c cells e fz x,v= .slice (some ⟨b,o,none⟩) l.length c/\l.length<=c/\b<G.base/\G.old b=some (.cells cells e fz x)/\o+l.length<=cells.length/\∀i,i<l.length->cells[o+i]?=l[i]?
theorem uS.of {e:TypeId} {a:Option Addr} {c n:Nat} {cs:List Value} (v:Hs G h (cB 1 e a c (n,cs)::L)):uS (B7 G h) (.slice a n c) cs:=by
 obtain⟨r,O,g,B,J,o,p⟩:=v.fst;obtain⟨u,z,g⟩:=g;simp only[Nat.mul_one] at u z g;subst u;refine⟨⟨_,_,rfl⟩,fun E=>?_⟩;rcases g with⟨D,_⟩|⟨D,_⟩|⟨f,b,t,y,ex,rfl,hle,rfl⟩;omega;omega;obtain⟨I,m⟩:=lL o p;have k:b<h.next:=by
  rcases Nat.lt_or_ge b h.next with j|j
  exact j;rw[v.fr b j] at m;cases m
 refine⟨b,t.length,c,_,e,(0,0),ex,rfl,f,k,m,by simp,fun i A=>?_⟩;rw[List.append_assoc,List.getElem?_append_right (by omega),Nat.add_sub_cancel_left,List.getElem?_append_left A]
theorem iJ {v:Value} {l:List Value} {k:Value->Prop} (f:uS G v l) (b:k (I l.length)):aK (eO v) k:=by
 obtain⟨a,c,e⟩:=f.is;rw[e];exact cM b
theorem iB {v u:Value} {l:List Value} {i:Nat} {k:Value->Prop} (A:Hs G h L) (B:uS G v l) (f:l[i]?=some u) (z:k u):aK (kK 1 v (I i)) fun p=>aK (vH h p) k:=by
 have a:=(List.getElem?_eq_some_iff.1 f).1;obtain⟨b,o,c,cells,e,g,x,m,D,r,t,E,y⟩:=B.at' (by omega);rw[m];refine gB a ?_;rw[Nat.mul_one];refine zE (c:=cells) A ⟨r,e,g,x,t⟩ (j:=0) ?_ z;rw[Nat.add_zero,y i a];exact f
theorem Xc {v:Value} {l:List Value} {n:Nat} {k:Value->Prop} (y:uS G v l) (j:0<l.length) (D:n<=l.length) (u:∀f,uS G f (l.take n)->k f):aK (sL 1 h v none (some (I n)) none) k:=by
 obtain⟨b,o,c,cells,e,g,x,m,z,p,r,A,t⟩:=y.at' j;have a:(l.take n).length=n:=by rw[List.length_take];omega
 refine⟨.slice (some ⟨b,o,none⟩) n c,?_,u _ ⟨⟨_,_,by rw[a]⟩,fun _=>⟨b,o,c,cells,e,g,x,by rw[a],by omega,p,r,by omega,fun i B=>?_⟩⟩⟩;rw[m];unfold sL;simp only[H0,Option.isNone_some,Bool.false_and,Bool.false_eq_true,if_false];rw[Kl (by omega)];simp only[Option.isSome_none,Bool.false_eq_true,if_false];rw[aae,aab];simp[Addr.add];rw[t i (by omega),List.getElem?_take_of_lt (by omega)]
theorem Jq {v:Value} {l:List Value} {b o c i m:Nat} {cells:List Value} {e:TypeId} {fz:Nat×Nat} {x:Bool} (_f:v= .slice (some ⟨b,o,none⟩) l.length c) (t:l.length<=c) (g:b<G.base) (k:G.old b=some (.cells cells e fz x)) (u:o+l.length<=cells.length)
  (p:∀i,i<l.length->cells[o+i]?=l[i]?) (r:i+m<=l.length):uS G (.slice (some ⟨b,o+i,none⟩) m (c - i)) ((l.drop i).take m):=by
 have a:((l.drop i).take m).length=m:=by rw[List.length_take,List.length_drop];omega
 refine⟨⟨_,_,by rw[a]⟩,fun _=>⟨b,o+i,c - i,cells,e,fz,x,by rw[a],by omega,g,k,by omega,fun j y=>?_⟩⟩
 rw[Nat.add_assoc,p (i+j) (by omega),List.getElem?_take_of_lt (by omega),List.getElem?_drop]
theorem vR {v:Value} {l:List Value} {i:Nat} {k:Value->Prop} (E:Hs G h L) (J:uS G v l) (y:0<l.length) (Q:i<=l.length) (a:∀u,uS G u (l.drop i)->k u):aK (sL 1 h v (some (I i)) none none) k:=by
 obtain⟨b,o,c,cells,e,O,x,f,z,g,j,A,B⟩:=J.at' y;have t:fX h b=some x:=by
  unfold fX;rw[E.wP g,j]
 by_cases p:c=i;have D:l.drop i=[]:=List.drop_of_length_le (by omega);rw[D] at a;have r:sL 1 h v (some (I i)) none none=if x then some kC else some (rC ((⟨b,o,none⟩:Addr).add (i*1))):=by
  rw[f];unfold sL;simp only[H0,Option.isNone_none,Option.isSome_none,Bool.and_false,Bool.false_eq_true,if_false];rw[Kl (by omega)];simp only;rw[aae,tu p];cases x with
  |true=>rw[t];rfl
  |false=>rw[t];rfl
 cases x with
 |true=>exact⟨kC,r,a _ ⟨⟨_,_,rfl⟩,fun h=>by cases h⟩⟩
 |false=>exact⟨_,r,a _ ⟨⟨_,_,rfl⟩,fun h=>by cases h⟩⟩
 have:=Jq (i:=i) (m:=l.length - i) f z g j A B (by omega);rw[List.take_of_length_le (by rw[List.length_drop];exact Nat.le_refl _)] at this;refine⟨.slice (some ⟨b,o+i,none⟩) (l.length - i) (c - i),?_,a _ this⟩;rw[f];unfold sL;simp only[H0,Option.isNone_none,Option.isSome_none,Bool.and_false,Bool.false_eq_true,if_false];rw[Kl (by omega)];simp only;rw[aae,tt p];simp[Addr.add]
theorem J2 {v:Value} {l:List Value} {i j:Nat} {k:Value->Prop} (A:uS G v l) (y:i<=j) (E:j<=l.length) (D:i<l.length) (z:∀f,uS G f ((l.drop i).take (j - i))->k f):aK (sL 1 h v (some (I i)) (some (I j)) none) k:=by
 obtain⟨b,o,c,cells,e,B,x,a,g,p,r,t,u⟩:=A.at' (by omega);have:=Jq (i:=i) (m:=j - i) a g p r t u (by omega);refine⟨.slice (some ⟨b,o+i,none⟩) (j - i) (c - i),?_,z _ this⟩;rw[a];unfold sL;simp only[H0,Option.isNone_some,Bool.false_and,Bool.false_eq_true,if_false];rw[Kl (by omega)];simp only;rw[Kl (by omega)];simp only[Option.isSome_none,Bool.false_eq_true,if_false];rw[aae,aab];simp[Addr.add]
def Hz (W:Nat) (e:TypeId) (v:Value) (l:List (List Value)):HP:=fun r=>(∀x∈l,x.length=W)/\∃a c,v= .slice a l.length c/\cB W e a c (l.length,l.flatten) r
theorem wN {W:Nat} {e:TypeId} {l:List (List Value)} {a:Option Addr} {c n:Nat} {cs:List Value} (f:∀x∈l,x.length=W) (g:n=l.length) (b:cs=l.flatten) (k:Hs G h (cB W e a c (n,cs)::L)):Hs G h (Hz W e (.slice a n c) l::L):=by
 subst g;subst b;exact Hs.join (A:=[_]) k fun r j=>⟨f,a,c,rfl,Ht.1 j⟩
theorem Tt {W:Nat} {e:TypeId} {v:Value} {l:List (List Value)} (g:Hs G h (Hz W e v l::L)):∃a c,v= .slice a l.length c:=g.I5 fun r f=>by
 obtain⟨_,a,c,b,_⟩:=f;exact⟨a,c,b⟩
theorem Gc {W:Nat} {e:TypeId} {v:Value} {l:List (List Value)} (hW:0<W) (f:Hs G h (Hz W e v l::L)):eJ (B7 G h) W v l.length (fun i=>l.getD i []):=by
 obtain⟨r,T,m,B,p,j,k⟩:=f.fst;obtain⟨Q,a,c,rfl,m⟩:=m;have D:Hs G h (cB W e a c (l.length,l.flatten)::L):=⟨f.base,f.old,f.wf,f.fr,_,⟨r,T,m,B,p,rfl⟩,(aU.dA p).2 ⟨j,k⟩⟩;obtain⟨y,z,A,g⟩:=Y0 hW D;refine⟨y,z,A,fun i t=>?_⟩;obtain⟨b,o,cells,E,I,J,O⟩:=g i t;refine⟨b,o,cells,E,I,?_,O⟩;rw[J];dsimp only;have u:=List.getElem?_eq_getElem (l:=l) (i:=i) t;rw[(lE Q u).1,List.getD_eq_getElem?_getD,u];rfl
end
end Go.Ab
namespace Go.Mc
open Go Go.Ab Go.Hm Go.At Go.Is Go.Ct Go.Nt Go.Sc
section
variable {C:aZ} {N:Nat} {M:kL}
end
end Go.Mc
