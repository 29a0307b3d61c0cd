/- A part of the proof. -/
import Derived.WalkKit
import Derived.AtR
import Derived.ChangeKeysEq
set_option linter.all false
namespace Go
theorem ER{p:Prop}(h:p:=by omega):p:=h
theorem ES{p:Prop}(h:p:=by grind):p:=h
theorem ET{p:Prop}(h:p:=by decide):p:=h
theorem EU{p:Prop}(h:p:=by kernel_rfl):p:=h
theorem EV{p:Prop}(h:p:=by simp):p:=h
theorem EW{p:Prop}(h:p:=by simp;omega):p:=h
theorem EX{p:Prop}(h:p:=by simp[fD,oF,aT.core,C.mW,C.pA,H.kB,mF,bT.enc]):p:=h
theorem EY{p:Prop}(h:p:=by cases h):p:=h
theorem EZ{p:Prop}(h:p:=by simp[aZ]):p:=h
theorem FA{p:Prop}(h:p:=by grind[aZ]):p:=h
theorem FB{p:Prop}(h:p:=by dsimp only;omega):p:=h
theorem FD{p:Prop}(h:p:=by show some (Value.int .i64<|wr _)=_;rw[ub h]):p:=h
theorem FE{p:Prop}(h:p:=by simp[gR] at h):p:=h
theorem FF{p:Prop}(h:p:=by simp only[qI];rw[aae];simp):p:=h
theorem FG{p:Prop}(h:p:=by simp[Builtin.firstCells,loadCells,loadCellsFrom]):p:=h
theorem FI{p:Prop}(h:p:=by cases e;exact k):p:=h
theorem FJ{p:Prop}(h:p:=by simp only[cr,eqGuard_at_string,hM,aW];simp only[binOp,Op.stringOp];rfl):p:=h
theorem FK{p:Prop}(h:p:=by have:=st.nx;omega):p:=h
theorem FL{p:Prop}(h:p:=by simp[tB,lY,c]):p:=h
theorem FM{p:Prop}(h:p:=by unfold yJ;simp;omega):p:=h
theorem FN{p:Prop}(h:p:=by simp[dQ.N7] at h):p:=h
theorem FO{p:Prop}(h:p:=by show min (4*C.aE.toNat) _=4*C.aE.toNat;omega):p:=h
theorem FQ{p:Prop}(h:p:=by cases a.dX;exact .inl rfl;exact .inr rfl):p:=h
theorem FR{p:Prop}(h:p:=by simp_all[Mu,rP]):p:=h
theorem FU{p:Prop}(h:p:=by simp only[aZ]):p:=h
theorem FV{p:Prop}(h:p:=by cases b<;>simp_all [rZ]):p:=h
theorem FW{p:Prop}(h:p:=by simp_all[Fo]):p:=h
theorem FX{p:Prop}(h:p:=by simp[Rows.topOwnRow]):p:=h
theorem FY{p:Prop}(h:p:=by simp_all):p:=h
theorem FZ{p:Prop}(h:p:=by have:=e.2;omega):p:=h
theorem Fe{p:Prop}(h:p:=by simpa using a):p:=h
theorem Fi{p:Prop}(h:p:=by show -9223372036854775808<=s.at'+1/\s.at'+1<=_;omega):p:=h
theorem GA{p:Prop}(h:p:=by rcases q with e|e;exact e;cases e):p:=h
theorem GB{p:Prop}(h:p:=by rw[e];rfl):p:=h
theorem GC{p:Prop}(h:p:=by rwa [aP]):p:=h
theorem GD{p:Prop}(h:p:=by rw[e];rw[show∀x y z:Nat,x+y+z=y+(z+x) by omega]):p:=h
theorem GF{p:Prop}(h:p:=by unfold qk;omega):p:=h
theorem GG{p:Prop}(h:p:=by have:=e.1;omega):p:=h
theorem GH{p:Prop}(h:p:=by grind[List.length_filter_le,List.range,gV.eE]):p:=h
theorem GI{p:Prop}(h:p:=by have:=hl.2.2;omega):p:=h
theorem GJ{p:Prop}(h:p:=by have:=hl.2.1;omega):p:=h
theorem GK{p:Prop}(h:p:=by simpa using h):p:=h
theorem GL{p:Prop}(h:p:=by rw[dN];omega):p:=h
theorem GM{p:Prop}(h:p:=by show some (I n.core)=_;rw[hi]):p:=h
theorem GN{p:Prop}(h:p:=by rw[<-hzc]):p:=h
theorem GO{p:Prop}(h:p:=by rw[ll];omega):p:=h
theorem GP{p:Prop}(h:p:=by unfold fD;rw[ri]):p:=h
theorem GQ{p:Prop}(h:p:=by simp[tZ] at h):p:=h
theorem GR{p:Prop}(h:p:=by unfold aI.Ae;rw[aab]):p:=h
theorem GS{p:Prop}(h:p:=by cases e):p:=h
theorem GU{p:Prop}(h:p:=by rw[gV.run];rw[aae];exact hr):p:=h
theorem GV{p:Prop}(h:p:=by simp[hvi]):p:=h
theorem GW{p:Prop}(h:p:=by rfl):p:=h
theorem GX{p:Prop}(h:p:=by funext j;split<;>simp_all):p:=h
theorem GY{p:Prop}(h:p:=by simpa using e):p:=h
theorem GZ{p:Prop}(h:p:=by rw[b.p.mem_iff];exact ei):p:=h
theorem HA{p:Prop}(h:p:=by rw[xR];exact ba _):p:=h
theorem HB{p:Prop}(h:p:=by unfold Ej;grind):p:=h
theorem HC{p:Prop}(h:p:=by cases d):p:=h
theorem HD{p:Prop}(h:p:=by simpa using d):p:=h
theorem HE{p:Prop}(h:p:=by rwa [a.base]):p:=h
theorem HF{p:Prop}(h:p:=by simpa using b):p:=h
theorem HG{p:Prop}(h:p:=by rw[<-v];rfl):p:=h
theorem HH{p:Prop}(h:p:=by grind[jU]):p:=h
theorem HI{p:Prop}(h:p:=by grind[eP]):p:=h
theorem HJ{p:Prop}(h:p:=by simp only[aZ];exact⟨_,by simp only[qN];exact hrel,rfl⟩):p:=h
theorem HK{p:Prop}(h:p:=by rw[f.gO _ ER] at u;cases u):p:=h
end Go
namespace Go
abbrev ay:=@List.getD_eq_getElem?_getD
abbrev aL:=@List.getElem?_eq_getElem
abbrev aO:=@Bool.false_eq_true
abbrev aP:=@Int.toNat_natCast
abbrev aV:=@Option.map_eq_some_iff
abbrev aW:=@Go.Result.andThen_ok
abbrev ba:=@Nat.le_refl
abbrev bb:=@Go.run_underlying
abbrev bj:=@List.length_append
abbrev cb:=@Int.eq_ofNat_of_zero_le
abbrev cr:=@Go.Sem.run_bind
abbrev cL:=@List.mem_append
abbrev cO:=@Option.isSome_iff_exists
abbrev c7:=@List.mem_singleton
abbrev c8:=@decide_eq_true
abbrev c9:=@if_false
abbrev dd:=@Option.isSome_none
abbrev dn:=@Bool.and_eq_true
abbrev dx:=@List.append_assoc
abbrev eb:=@congrArg
abbrev ec:=@decide_eq_false
abbrev eg:=@List.drop_of_length_le
abbrev eh:=@List.getElem?_eq_some_iff
abbrev ei:=@List.mem_cons_self
abbrev eo:=@of_decide_eq_true
abbrev er:=@List.range_succ
abbrev eK:=@List.mem_cons_of_mem
abbrev e8:=@List.take_of_length_le
abbrev e9:=@if_true
abbrev fj:=@Array.getElem?_eq_some_iff
abbrev fm:=@List.mem_of_getElem?
abbrev gg:=@List.eq_nil_of_length_eq_zero
abbrev gi:=@List.getElem?_map
abbrev gL:=@List.mem_map
abbrev hI:=@Nat.le_trans
abbrev hK:=@List.cons_append
abbrev hM:=@Go.Sem.run_pure
abbrev hS:=@Decidable.byContradiction
abbrev hX:=@List.append_nil
abbrev hZ:=@List.nil_append
abbrev js:=@List.length_map
abbrev j2:=@List.mem_cons
abbrev kd:=@List.length_singleton
abbrev kt:=@List.drop_zero
abbrev kx:=@List.map_cons
abbrev k5:=@List.length_cons
abbrev k6:=@Nat.ble_eq_true_of_le
abbrev k7:=@List.mem_range
abbrev k8:=@List.map_append
abbrev k9:=@List.drop_eq_getElem_cons
abbrev ll:=@List.length_take
abbrev lP:=@List.all_eq_true
abbrev l4:=@Option.map_some
abbrev l5:=@List.getElem?_eq_none
abbrev l7:=@Nat.le_of_ble_eq_true
abbrev l9:=@List.getElem?_append_right
abbrev mn:=@List.ext_getElem?
abbrev nh:=@List.getElem?_range
abbrev og:=@Decidable.not_not
abbrev o0:=@Nat.lt_of_lt_of_le
abbrev pw:=@Nat.eq_of_beq_eq_true
abbrev p4:=@List.getElem?_append_left
abbrev p9:=@Nat.mul_le_mul_right
abbrev qv:=@Nat.le_succ
abbrev q5:=@List.length_drop
abbrev q6:=@List.length_nil
abbrev ri:=@List.length_set
abbrev rk:=@List.length_filter_le
abbrev r5:=@List.getElem?_cons_zero
abbrev sr:=@List.map_congr_left
abbrev ss:=@Option.getD_some
abbrev sz:=@List.getElem_mem
abbrev tb:=@Nat.le_succ_of_le
abbrev ts:=@Nat.lt_or_ge
abbrev ux:=@Nat.succ_mul
abbrev u3:=@List.flatMap_append
abbrev u4:=@List.drop_drop
abbrev u7:=@Bool.false_and
abbrev v7:=@List.getElem?_take_of_lt
abbrev wK:=@List.take_append_drop
abbrev xa:=@List.take_append_of_le_length
abbrev xc:=@List.flatMap_cons
abbrev x0:=@List.take_add_one
abbrev x4:=@List.getElem?_drop
abbrev ya:=@Option.isNone_none
abbrev yg:=@List.find?_eq_none
abbrev zs:=@Bool.false_ne_true
abbrev z1:=@List.getElem?_cons_succ
abbrev AA:=@Nat.mod_lt
abbrev AB:=@List.Perm.refl
abbrev AD:=@List.exists_cons_of_ne_nil
abbrev AE:=@List.nodup_cons
abbrev AF:=@Array.getElem?_toList
abbrev AG:=@List.take_length
abbrev AI:=@Nat.add_zero
abbrev AJ:=@Bool.true_and
abbrev AK:=@Nat.zero_le
abbrev AL:=@Bool.and_false
abbrev AN:=@List.flatMap_eq_nil_iff
abbrev AO:=@List.replicate_succ
abbrev AP:=@List.getElem_of_mem
abbrev AQ:=@Nat.zero_add
abbrev AR:=@List.drop_eq_nil_of_le
abbrev AS:=@Nat.lt_succ_self
abbrev AT:=@Option.bind_some
abbrev AU:=@Nat.div_eq_of_lt
abbrev AV:=@decide_eq_decide
abbrev AW:=@Nat.eq_zero_or_pos
abbrev AX:=@Option.isNone_some
abbrev AY:=@Classical.byContradiction
abbrev AZ:=@List.rel_of_pairwise_cons
abbrev BA:=@Bool.or_eq_true
abbrev BB:=@List.mem_filter
abbrev BC:=@Nat.mul_add_div
abbrev BD:=@List.map_map
abbrev BE:=@Bool.not_true
abbrev BF:=@List.take_succ_cons
abbrev BG:=@List.mem_flatMap
abbrev BH:=@Option.bind_eq_some_iff
abbrev BI:=@List.drop_append_of_le_length
abbrev BJ:=@Nat.blt_eq
abbrev BK:=@Nat.sub_self
abbrev BL:=@List.length_eq_one_iff
abbrev BM:=@Int.emod_lt_of_pos
abbrev BN:=@List.filter_append
abbrev BO:=@Int.emod_nonneg
abbrev BP:=@List.sum_append
abbrev BQ:=@List.all_cons
abbrev BR:=@List.getElem?_toArray
abbrev BS:=@Bool.not_eq_true'
abbrev BT:=@Go.DataW.trod_struct
abbrev BU:=@List.getElem?_set
abbrev BV:=@Nat.add_mul
abbrev BW:=@List.eraseIdx_of_length_le
abbrev BX:=@Array.toList_map
abbrev BY:=@Go.step_lone_go
abbrev BZ:=@Go.GStep.bare_after
abbrev CA:=@List.getElem?_eq_none_iff
abbrev CB:=@Array.length_toList
abbrev CC:=@Array.toList_append
abbrev CD:=@Array.getElem?_push
abbrev CE:=@List.drop_succ_cons
abbrev CF:=@Int.toNat_of_nonneg
abbrev CG:=@Nat.add_assoc
abbrev CH:=@List.foldl_cons
abbrev CI:=@List.pairwise_cons
abbrev CJ:=@Array.getElem?_setIfInBounds_self
abbrev CK:=@List.take_succ_eq_append_getElem
abbrev CL:=@List.drop_take
abbrev CM:=@List.flatten_cons
abbrev CN:=@List.nodup_append
abbrev CO:=@List.map_nil
abbrev CP:=@List.take_append
abbrev CQ:=@Go.Frame.finish_atR
abbrev CR:=@List.drop_append
abbrev CS:=@List.perm_middle
abbrev CT:=@List.flatMap_nil
abbrev CU:=@List.countP_cons
abbrev CV:=@Bool.and_true
abbrev CW:=@Iff.rfl
abbrev CX:=@List.mem_append_left
abbrev CY:=@List.find?_eq_some_iff_append
abbrev CZ:=@and_self
abbrev DA:=@List.reverse_reverse
abbrev DB:=@List.mem_of_mem_drop
abbrev DC:=@List.all_append
abbrev DD:=@List.countP_pos_iff
abbrev DE:=@Nat.add_comm
abbrev DF:=@Array.toList_setIfInBounds
abbrev DG:=@Option.isSome_some
abbrev DH:=@List.getElem_range
abbrev DI:=@Go.IntWalk.i64_in
abbrev DJ:=@Nat.mul_le_mul
abbrev DK:=@Go.Steps.refl
abbrev DL:=@Option.any_eq_true
abbrev DM:=@List.countP_append
abbrev DN:=@Array.size_append
abbrev DO:=@Go.Sem.runT_eq
abbrev DP:=@Nat.lt_succ_of_lt
abbrev DQ:=@decide_eq_true_eq
abbrev DR:=@List.reverse_cons
abbrev DS:=@List.foldl_append
abbrev DT:=@List.any_eq_false
abbrev DU:=@Go.Oper.semAt_eq
abbrev DV:=@List.sum_cons
abbrev DW:=@Go.DataW.trod_slice
abbrev DX:=@List.any_eq_true
abbrev DY:=@List.filter_cons
abbrev DZ:=@Nat.sub_zero
abbrev D0:=@Nat.zero_mul
abbrev EA:=@Nat.succ_pos
abbrev EB:=@Nat.min_eq_left
abbrev EC:=@Nat.div_add_mod
abbrev ED:=@Nat.zero_lt_one
abbrev EE:=@Bool.not_false
abbrev EF:=@List.take_left
abbrev EG:=@Nat.mul_one
abbrev EH:=@List.drop_left
abbrev EI:=@List.take_zero
abbrev EJ:=@Nat.not_lt
abbrev EK:=List Value
abbrev HT:=Option EK
abbrev HY:=List EK
abbrev EL:=List Int
abbrev EM:=List Nat
abbrev IC:=Option EM
abbrev EN:=Option Addr
abbrev EO:=Option Value
abbrev EP:=Array Value
end Go
open Go
variable {i j:Nat}
namespace Go.Ab
def aXf.{u} {c:Prop} {_:Decidable c} (n:¬c) {α:Sort u} {t e:α}:ite c t e=e:=if_neg n
def aab.{u} {c:Prop} {_:Decidable c} {α:Sort u} {t e:α}(n:¬c:=by omega):ite c t e=e:=if_neg n
def aXg.{u} {c:Prop} {_:Decidable c} (n:c) {α:Sort u} {t e:α}:ite c t e=t:=if_pos n
def aae.{u} {c:Prop} {_:Decidable c} {α:Sort u} {t e:α}(n:c:=by omega):ite c t e=t:=if_pos n
variable {α:Type}
noncomputable section
def Yb:Value:= .chan none
def An:Value->Bool
 |.chan _=>true
 |_=>false
def gA:Value->Bool
 |.agg _|.tuple _|.chan _=>false
 |_=>true
mutual
def gR:Value->Bool
 |.bool _|.int _ _|.string _|.pointer none|.slice none _ _|.map none|.nilFunc|.nilIface=>true
 |.iface _ v=>gR v
 |.agg a=>Dv a
 |.tuple a=>Dv a
 |_=>false
def Dv:EP->Bool
 |⟨l⟩=>qD l
def qD:EK->Bool
 |[]=>true
 |v::l=>gR v&&qD l
end
abbrev jB:=Nat->Option (Nat×(Nat×Nat))
def Mx (ρ:jB):Fn->Fn->Prop
 |.yield l,g=>∃b s,ρ l=some (b,s)/\g= .yield b
 |f,g=>g=f
mutual
def aZ (ρ:jB):Value->Value->Prop
 |.bool b,d=>d= .bool b
 |.int k n,d=>d= .int k n
 |.float k n,d=>d= .float k n
 |.complex k n m,d=>d= .complex k n m
 |.string s,d=>d= .string s
 |.pointer none,d=>d= .pointer none
 |.pointer (some a),d=>∃b s,ρ a.block=some (b,s)/\d= .pointer (some ⟨b,a.off+s.2,a.spot⟩)
 |.slice none l c,d=>d= .slice none l c
 |.slice (some ⟨i,o,some x⟩) l c,d=>l=0/\c=0/\∃q f,(x=1->f=0)/\(x=2->∃b s,ρ i=some (b,s)/\f<=s.1/\(0<f->q=⟨b,o+s.2,none⟩))/\d= .slice (some q) 0 f
 |.slice (some ⟨i,o,none⟩) l c,d=>∃b s f,ρ i=some (b,s)/\c<=f/\f<=c+s.1/\d= .slice (some ⟨b,o+s.2,none⟩) l f
 |.map none,d=>d= .map none
 |.map (some r),d=>∃b s,ρ r=some (b,s)/\d= .map (some b)
 |.chan none,_=>True
 |.chan (some _),_=>False
 |.func y z g,d=>∃j p e,Mx ρ y j/\qN ρ z p/\qN ρ g e/\d= .func j p e
 |.nilFunc,d=>d= .nilFunc
 |.iface t v,d=>∃u,aZ ρ v u/\d= .iface t u
 |.nilIface,d=>d= .nilIface
 |.agg g,d=>∃e,qN ρ g e/\d= .agg e
 |.tuple g,d=>∃e,qN ρ g e/\d= .tuple e
def qN (ρ:jB):EP->EP->Prop
 |⟨l⟩,a=>bH ρ l a.toList
def bH (ρ:jB):EK->EK->Prop
 |[],a=>a=[]
 |v::l,a=>∃c b,aZ ρ v c/\bH ρ l b/\a=c::b
end
inductive oU where
 |cells (c:EK) (elem:TypeId) (fz:Nat×Nat) (exact:Bool)
 |loop (st:LoopState) (pending:Option Code) (fn:FuncId) (tmps:EK) (params:Array Tmp) (assign body:Code) (defers:Nat)
 |vA (aI4:Bool)
 |map (es:List (Value×Value×Nat)) (clock:Nat)
 |mapIter (m:Option Nat) (since:Nat) (seen:EM) (last:Nat)
 |N4 (s:ByteArray) (pos:Nat)
abbrev HW:=Option oU
inductive Tr (α:Type) where
 |lf
 |nd (v:α) (l r:Tr α)
noncomputable def Tr.get {α:Type} (d:α) (t:Tr α):Nat->α:=
 Tr.rec (motive:=fun _=>Nat->α) (fun _=>d) (fun v _ _ gl gr n=>Nat.rec (motive:=fun _=>α) v (fun m _=>Nat.rec (motive:=fun _=>α) (gl<|Nat.div m 2) (fun _ _=>gr<|Nat.div m 2)<|Nat.mod m 2) n) t
noncomputable def Tr.qw {α:Type} (d:α) (f:Nat):Nat->α->Tr α:=
 Nat.rec (motive:=fun _=>Nat->α->Tr α) (fun _ _=> .lf) (fun _ a n o=>Nat.rec (motive:=fun _=>Tr α) (.nd o .lf .lf) (fun m _=>Nat.rec (motive:=fun _=>Tr α) (.nd d (a (Nat.div m 2) o) .lf) (fun _ _=> .nd d .lf (a (Nat.div m 2) o))<|Nat.mod m 2) n) f
noncomputable def Tr.set {α:Type} (d:α) (t:Tr α):Nat->α->Tr α:=
 Tr.rec (motive:=fun _=>Nat->α->Tr α) (fun n o=>Tr.qw d (n+1) n o)
  (fun v l r a b n o=>Nat.rec (motive:=fun _=>Tr α) (.nd o l r) (fun m _=>Nat.rec (motive:=fun _=>Tr α) (.nd v (a (Nat.div m 2) o) r) (fun _ _=> .nd v l (b (Nat.div m 2) o))<|Nat.mod m 2) n) t
def Xp {β:Type} (n:Nat) (a b:β):Nat.rec (motive:=fun _=>β) a (fun _ _=>b) (Nat.mod n 2)=if n % 2=0 then a else b:=by
 show Nat.rec (motive:=fun _=>β) a _ (n % 2)=_;cases n % 2<;>rfl
def Tr.Pv (d:α) (n:Nat):(Tr.lf:Tr α).get d n=d:=rfl
def Tr.Tx (d v:α) (l r:Tr α):(Tr.nd v l r).get d 0=v:=rfl
def Tr.Mh (d v:α) (l r:Tr α) (n:Nat):(Tr.nd v l r).get d (n+1)=if n % 2=0 then l.get d (n/2) else r.get d (n/2):=Xp _ _ _
def Tr.aNp (d:α) (f:Nat) (o:α):Tr.qw d (f+1) 0 o= .nd o .lf .lf:=rfl
def Tr.aNo (d:α) (f n:Nat) (o:α):Tr.qw d (f+1) (n+1) o=if n % 2=0 then .nd d (Tr.qw d f (n/2) o) .lf else .nd d .lf (Tr.qw d f (n/2) o):=Xp _ _ _
def Tr.aOy (d:α) (n:Nat) (o:α):(Tr.lf:Tr α).set d n o=Tr.qw d (n+1) n o:=rfl
def Tr.aRc (d v:α) (l r:Tr α) (o:α):(Tr.nd v l r).set d 0 o= .nd o l r:=rfl
def Tr.aT6 (d v:α) (l r:Tr α) (n:Nat) (o:α):(Tr.nd v l r).set d (n+1) o=if n % 2=0 then .nd v (l.set d (n/2) o) r else .nd v l (r.set d (n/2) o):=Xp _ _ _
theorem Tr.ey {α:Type} (d:α):∀(f n m:Nat) (o:α),n<f->(Tr.qw d f n o).get d m=if m=n then o else d
 |0,n,_,_,h=>ER
 |f+1,0,m,o,_=>by
  rw[Tr.aNp];cases m with
  |zero=>simp[Tr.Tx]
  |succ m=>simp[Tr.Mh,Tr.Pv]
 |f+1,n+1,m,o,h=>by
  have b:=fun m=>Tr.ey d f (n/2) m o ER;rw[Tr.aNo];split;cases m with
  |zero=>simp[Tr.Tx]
  |succ m=>
   rw[Tr.Mh];by_cases a:m % 2=0;grind;rw[aXf a,Tr.Pv];grind
  cases m with
  |zero=>simp[Tr.Tx]
  |succ m=>
   rw[Tr.Mh];by_cases a:m % 2=0;rw[aXg a,Tr.Pv];grind;grind
theorem Tr.kP {α:Type} (d:α):∀(t:Tr α) (n m:Nat) (o:α),(t.set d n o).get d m=if m=n then o else t.get d m
 |.lf,n,m,o=>by rw[Tr.Pv,Tr.aOy];simp_all[Tr.ey,AS]
 |.nd v l r,0,m,o=>by
  rw[Tr.aRc];cases m with
  |zero=>simp[Tr.Tx]
  |succ m=>simp[Tr.Mh]
 |.nd v l r,n+1,m,o=>by
  rw[Tr.aT6];split;cases m with
  |zero=>simp[Tr.Tx]
  |succ m=>
   rw[Tr.Mh,Tr.Mh];by_cases a:m % 2=0;rw[aXg a,aXg a,Tr.kP d l];grind;grind
  cases m with
  |zero=>simp[Tr.Tx]
  |succ m=>
   rw[Tr.Mh,Tr.Mh];by_cases a:m % 2=0;grind;rw[aXf a,aXf a,Tr.kP d r];grind
structure AH where
 base:Nat
 next:Nat
 old:Nat->HW
 lK:Tr (HW)
abbrev IB:=Option AH
def AH.get (h:AH) (i:Nat):HW:=AH.rec (motive:=fun _=>HW) (fun a _ b lK=>Bool.rec (motive:=fun _=>HW) (lK.get none<|Nat.sub i a) (b i)<|Nat.blt i a) h
def AH.set (h:AH) (i:Nat) (o:HW):AH:=AH.rec (motive:=fun _=>AH) (fun a next b lK=>Bool.rec (motive:=fun _=>AH) ⟨a,next,b,lK.set none (Nat.sub i a) o⟩ ⟨a,next,b,lK⟩<|Nat.blt i a) h
def AH.alloc (h:AH) (o:oU):AH:=AH.rec (motive:=fun _=>AH) (fun a next b lK=>⟨a,Nat.succ next,b,lK.set none (Nat.sub next a)<|some o⟩) h
theorem AH.Ac (h:AH) (i:Nat):h.get i=if i<h.base then h.old i else h.lK.get none (i - h.base):=by
 obtain⟨a,next,b,lK⟩:=h;simp only[AH.get];cases hb:Nat.blt i a with
 |true=>simp_all
 |false=>rw[aXf<|by grind[Nat.blt_eq]];rfl
theorem AH.Qd (h:AH) (i:Nat) (o:HW):h.set i o=if i<h.base then h else {h with lK:=h.lK.set none (i - h.base) o}:=by
 obtain⟨a,next,b,lK⟩:=h;simp only[AH.set];cases hb:Nat.blt i a with
 |true=>simp_all
 |false=>rw[aXf<|by grind[Nat.blt_eq]];rfl
def AH.alloc_eq (h:AH) (o:oU):h.alloc o={h with lK:=h.lK.set none (h.next - h.base)<|some o,next:=h.next+1}:=rfl
theorem AH.kP {h:AH} {o:HW} (b:h.base<=i):(h.set i o).get j=if j=i then o else h.get j:=by
 rw[AH.Qd,aab,AH.Ac,AH.Ac];by_cases a:j<h.base;grind;simp[a,c9,Tr.kP];grind
@[simp] theorem AH.fy {h:AH} {i:Nat} {o:HW}:(h.set i o).base=h.base:=by rw[AH.Qd];split<;>rfl
@[simp] theorem AH.aEf {h:AH} {i:Nat} {o:HW}:(h.set i o).next=h.next:=by rw[AH.Qd];split<;>rfl
@[simp] theorem AH.aPe {h:AH} {o:oU}:(h.alloc o).base=h.base:=rfl
@[simp] theorem AH.aPt {h:AH} {o:oU}:(h.alloc o).next=h.next+1:=rfl
theorem AH.tQ {h:AH} {o:oU} (hb:h.base<=h.next):(h.alloc o).get j=if j=h.next then some o else h.get j:=by
 rw[AH.alloc_eq,AH.Ac,AH.Ac];by_cases a:j<h.base;grind;simp[a,c9,Tr.kP];grind
def dK (c:EK) (a:Nat) (xs:EK):EK:=c.take a++xs++c.drop (a+xs.length)
def lY (P:Program) (t:TypeId):Option Bool:=
 (P.underlying t).map fun|.struct _|.array _ _=>true|_=>false
def pH (P:Program) (t:TypeId):HT:=
 ((P.info? t).bind (·.zero)).bind fun z=>
  if gR z&&z.cells.toList.all gA&&z.cells.size==P.cellsOf t then some z.cells.toList else none
def bytesOf (P:Program) (t:TypeId):Nat:=P.bytesOf t
def dE (h:AH) (a:Addr) (n:Nat):HT:=
 if a.spot.isSome then none else
 match h.get a.block with
 |some (.cells c _ _ _)=>if a.off+n<=c.length then some ((c.drop a.off).take n) else none
 |_=>none
def xW (P:Program) (h:AH) (t:TypeId) (a:Addr):EO:=
 match lY P t with
 |some true=>(dE h a<|P.cellsOf t).map fun l=> .agg ⟨l⟩
 |some false=>
  if a.spot.isSome then none else
  match h.get a.block with
  |some (.cells c _ _ _)=>c[a.off]?
  |_=>none
 |none=>none
def fL (h:AH) (a:Addr) (vs:EK):IB:=
 if a.spot.isSome||a.block<h.base|| !vs.all gA then none else
 match h.get a.block with
 |some (.cells c e b x)=>if b.2=0/\a.off+vs.length<=c.length then some (h.set a.block<|some<|.cells (dK c a.off vs) e b x) else none
 |_=>none
def kD (v:Value):HT:=if An v then none else some v.cells.toList
def Qw (P:Program) (h:AH) (t:TypeId) (a:Addr) (v:Value):IB:=
 match kD v with
 |some b=>if b.length=P.cellsOf t/\(P.info? t).isSome then fL h a b else none
 |none=>none
def iS (P:Program) (t:TypeId) (cs:EK) (a:Nat):EO:=
 match lY P t with
 |some true=>if a+P.cellsOf t<=cs.length then some (.agg ⟨(cs.drop a).take<|P.cellsOf t⟩) else none
 |some false=>cs[a]?
 |none=>none
def I9 (place:Nat->Option (Nat×Nat)) (cells:EK):List (Nat×Value)->HT
 |[]=>some cells
 |(i,v)::rest=>
  match place i,kD v with
  |some (a,size),some b=>if b.length=size/\a+b.length<=cells.length then I9 place (dK cells a b) rest else none
  |_,_=>none
def J8 (P:Program) (t:TypeId) (a:List (Nat×Value)):EO:=
 match pH P t,P.underlying t with
 |some z,some (.struct b)=>
  if b.all (fun f=>(P.info? f.type).isSome) then(I9 (fun i=>(b[i]?).map fun f=>(f.offset,P.cellsOf f.type)) z a).map fun l=> .agg ⟨l⟩ else none
 |some z,some (.array _ e)=>
  if(P.info? e).isSome then(I9 (fun i=>some (i*P.cellsOf e,P.cellsOf e)) z a).map fun l=> .agg ⟨l⟩ else none
 |_,_=>none
def gB (z:EK) (n:Nat):EK:=(List.replicate n z).flatten
def qI (v:EO) (a:Nat) (most:Nat):Option Nat:=
 match v with
 |none=>some a
 |some (.int _ i)=>if 0<=i/\i<=most then some i.toNat else none
 |some _=>none
def Em (a:Addr):Value:= .slice (some ⟨a.block,a.off,some 2⟩) 0 0
def xJ:Value:= .slice (some ⟨0,0,some 1⟩) 0 0
def aPo:Value:= .slice (some ⟨0,0,some 0⟩) 0 0
def qU (h:AH) (i:Nat):Option Bool:=match h.get i with|some (.cells _ _ _ x)=>some x|_=>none
def B5 (P:Program) (h:AH) (t:TypeId) (x:Value) (g f d:EO):EO:=
 match P.underlying t,x with
 |some (.slice e),.slice none len b=>
  match qI d b b with
  |some m=>match(if f.isNone&&d.isSome then none else qI f len m) with
   |some c=>match qI g 0 c with
    |some l=>if(P.info? e).isSome then some (.slice none (c - l)<|m - l) else none
    |none=>none
   |none=>none
  |none=>none
 |some (.slice e),.slice (some a) len b=>
  match qI d b b with
  |some m=>match(if f.isNone&&d.isSome then none else qI f len m) with
   |some c=>match qI g 0 c with
    |some l=>
     if a.spot.isSome then(if(P.info? e).isSome/\len=0/\b=0 then some (if d.isSome then xJ else aPo) else none) else
     if(P.info? e).isSome/\c<=m then
      (if m=l then
       if d.isSome then some xJ else
       match qU h a.block with
       |some true=>some xJ
       |some false=>some (Em<|a.add<|l*P.cellsOf e)
       |none=>none
      else some (.slice (some<|a.add<|l*P.cellsOf e) (c - l)<|m - l))
     else none
    |none=>none
   |none=>none
  |none=>none
 |some .string,.string s=>
  if d.isSome then none else
  match qI f s.size s.size with
  |some c=>match qI g 0 c with
   |some l=>some (.string<|s.extract l c)
   |none=>none
  |none=>none
 |_,_=>none
def pR (P:Program) (eq:TypeId->Value->Value->Option Bool) (xs ys:EK):List Field->Option Bool
 |[]=>some true
 |f::a=>
  if f.name= "_" then pR P eq xs ys a else
  match iS P f.type xs f.offset,iS P f.type ys f.offset with
  |some x,some y=>match eq f.type x y with
   |some true=>pR P eq xs ys a
   |some false=>some false
   |none=>none
  |_,_=>none
def uM (P:Program) (eq:TypeId->Value->Value->Option Bool) (e:TypeId) (xs ys:EK):EM->Option Bool
 |[]=>some true
 |i::is=>
  match iS P e xs (i*P.cellsOf e),iS P e ys (i*P.cellsOf e) with
  |some x,some y=>match eq e x y with
   |some true=>uM P eq e xs ys is
   |some false=>some false
   |none=>none
  |_,_=>none
def Fo (P:Program):Nat->TypeId->Value->Value->Option Bool
 |0,_,_,_=>none
 |d+1,t,x,y=>
  match P.underlying t,x,y with
  |some .bool,.bool a,.bool b=>some (a==b)
  |some (.int _),.int k a,.int i b=>if k=i then some (a==b) else none
  |some .string,.string a,.string b=>some (a==b)
  |some (.pointer _),.pointer none,.pointer b=>some b.isNone
  |some (.pointer _),.pointer<|some _,.pointer none=>some false
  |some (.interface _),.nilIface,.nilIface=>some true
  |some (.interface _),.nilIface,.iface _ _=>some false
  |some (.interface _),.iface _ _,.nilIface=>some false
  |some (.struct g),.agg c,.agg f=>if P.stoodInHeld t then none else pR P (Fo P d) c.toList f.toList g.toList
  |some (.array n e),.agg c,.agg f=>if(P.info? e).isSome then uM P (Fo P d) e c.toList f.toList (List.range n) else none
  |some (.slice _),.slice none _ _,.slice b _ _=>some b.isNone
  |some (.slice _),.slice (some _) _ _,.slice none _ _=>some false
  |some (.map _ _),.map none,.map b=>some b.isNone
  |some (.map _ _),.map<|some _,.map none=>some false
  |some (.func _ _ _),.nilFunc,.nilFunc=>some true
  |some (.func _ _ _),.nilFunc,.func _ _ _=>some false
  |some (.func _ _ _),.func _ _ _,.nilFunc=>some false
  |_,_,_=>none
def Cg:Operand->Bool
 |.const _=>true
 |_=>false
def Lz (P:Program) (t:TypeId) (x y:Operand) (a b:Value):Bool:=
 match a,b with
 |.nilIface,.nilIface=>Cg x||Cg y
 |.agg _,.agg _=> !P.eqGuardType P.depth t
 |_,_=>true
def aSs (op:BinOp) (x y:Int):Option Bool:=
 match op with
 |.eql=>some (x==y)
 |.neq=>some (x !=y)
 |.lss=>some (decide<|x<y)
 |.leq=>some (decide<|x<=y)
 |.gtr=>some (decide<|x>y)
 |.geq=>some (decide<|x>=y)
 |_=>none
def Se (op:BinOp) (k:IntKind) (x y:Int):EO:=
 match op with
 |.add=>some (.int k<|k.wrap<|x+y)
 |.sub=>some (.int k<|k.wrap<|x - y)
 |.mul=>some (.int k<|k.wrap<|x*y)
 |.quo=>if y=0 then none else some (.int k<|k.wrap<|x.tdiv y)
 |.rem=>if y=0 then none else some (.int k<|x.tmod y)
 |.eql|.neq|.lss|.leq|.gtr|.geq=>(aSs op x y).map .bool
 |_=>none
def Yo (P:Program) (op:BinOp) (t:TypeId) (x y:Operand) (a b:Value):EO:=
 match a,b with
 |.int k m,.int c n=>if k=c then Se op k m n else none
 |.string m,.string n=>match op with
  |.eql=>some (.bool<|m.toList==n.toList)
  |.neq=>some (.bool !(m.toList==n.toList))
  |_=>none
 |a,b=>
  match op with
  |.eql=>if Lz P t x y a b then(Fo P 10000 t a b).map .bool else none
  |.neq=>if Lz P t x y a b then(Fo P 10000 t a b).map fun e=> .bool !e else none
  |_=>none
def iT (P:Program) (b:Operand->Value):Op->Option (oU×(Nat->Value))
 |.alloc e=>(pH P e).map fun z=>(.cells z e (0,0) true,fun i=> .pointer (some ⟨i,0,none⟩))
 |.box e x=>(kD<|b x).map fun l=>(.cells l e (0,0) true,fun i=> .pointer (some ⟨i,0,none⟩))
 |.buildSlice t len a=>
  match P.underlying t with
  |some (.slice e)=>
   match pH P e with
   |some z=>
    if len*P.cellsOf e<=2^24 then
     (I9 (fun i=>some (i*P.cellsOf e,P.cellsOf e)) (gB z len)<|a.toList.map fun p=>(p.1,b p.2)).map fun l=>
      (.cells l e (0,0) true,fun i=> .slice (some ⟨i,0,none⟩) len len)
    else none
   |none=>none
  |_=>none
 |.makeSlice t l c=>match P.underlying t,b l,b c with
  |some (.slice e),.int _ l,.int _ c=>
   match pH P e with
   |some z=>
    if 0<=l/\l<=c/\c<=2^40/\P.bytesOf e*c<=2^47 then
     some (.cells (gB z c.toNat) e (0,0) true,fun i=> .slice (some ⟨i,0,none⟩) l.toNat c.toNat)
    else none
   |none=>none
  |_,_,_=>none
 |.makeMap t r=>match r with
  |none=>some (.map [] 0,fun i=> .map (some i))
  |some x=>match P.underlying t,b x with
   |some (.map _ _),.int _ _=>some (.map [] 0,fun i=> .map (some i))
   |_,_=>none
 |_=>none
def Ky (P:Program) (t:TypeId):Option TypeId:=
 match P.underlying t with
 |some (.map a elem)=>match P.underlying a with
  |some (.int _)=>some elem
  |_=>none
 |_=>none
def Ax (k:IntKind) (n:Int):List (Value×Value×Nat)->Nat->Option (Option<|Nat×Value)
 |[],_=>some none
 |(.int j m,v,_)::a,i=>if k=j then(if n=m then some (some (i,v)) else Ax k n a (i+1)) else none
 |_::_,_=>none
def gh (P:Program) (t:TypeId):EO:=((P.info? t).bind (·.zero)).bind fun z=>if gR z then some z else none
def pj (h:AH):Value->Option (List<|Value×Value×Nat)
 |.map none=>some []
 |.map (some r)=>match h.get r with
  |some (.map a _)=>some a
  |_=>none
 |_=>none
def zD (P:Program) (h:AH) (t:TypeId) (x ix:Value) (ok:Bool):EO:=
 match Ky P t,pj h x,ix with
 |some e,some a,.int k n=>match Ax k n a 0 with
  |some (some (_,v))=>some (if ok then .tuple ⟨[v,.bool true]⟩ else v)
  |some none=>(gh P e).map fun z=>if ok then .tuple ⟨[z,.bool false]⟩ else z
  |none=>none
 |_,_,_=>none
def aKa (k:IntKind) (n:Int) (v:Value) (es:List (Value×Value×Nat)) (a:Nat):HW:=
 match Ax k n es 0 with
 |some (some (i,_))=>some (.map (es.modify i fun e=>(.int k n,v,e.2.2)) a)
 |some none=>some (.map (es++[(.int k n,v,a)])<|a+1)
 |none=>none
def Fh (P:Program) (h:AH) (t:TypeId) (m b v:Value):IB:=
 match Ky P t,m,b with
 |some _,.map<|some r,.int k n=>if r<h.base then none else match h.get r with
  |some (.map c a)=>(aKa k n v c a).map fun o=>h.set r (some o)
  |_=>none
 |_,_,_=>none
def Jo (P:Program) (h:AH) (t:TypeId) (m c:Value):IB:=
 match Ky P t,m,c with
 |some _,.map none,.int _ _=>some h
 |some _,.map<|some r,.int k n=>if r<h.base then none else match h.get r with
  |some (.map b a)=>match Ax k n b 0 with
   |some (some (i,_))=>some (h.set r<|some<|.map (b.eraseIdx i) a)
   |some none=>some (h.set r<|some<|.map b a)
   |none=>none
  |_=>none
 |_,_,_=>none
def dA (P:Program) (g:Operand->Value) (h:AH):Op->EO
 |.move x=>some (g x)
 |.assign x=>some (g x)
 |.pick c a b=>match g c with
  |.bool t=>some (if t then g a else g b)
  |_=>none
 |.build t l=>J8 P t (l.toList.map fun p=>(p.1,g p.2))
 |.load t a=>match g a with
  |.pointer (some a)=>xW P h t a
  |_=>none
 |.nilCheck x=>match g x with
  |.pointer (some a)=>some (.pointer<|some a)
  |.func (.func f) a b=>some (.func (.func f) a b)
  |.func (.yield f) a b=>some (.func (.yield f) a b)
  |_=>none
 |.binOp op t x y _=>Yo P op t x y (g x) (g y)
 |.unOp op _ x=>match op,g x with
  |.neg,.int k n=>some (.int k<|k.wrap<|0 - n)
  |.not,.bool b=>some (.bool !b)
  |_,_=>none
 |.convert s d x=>match P.underlying s,P.underlying d,g x with
  |some _,some<|.int k,.int _ n=>some (.int k<|k.wrap n)
  |_,_,_=>none
 |.makeInterface t x=>match P.underlying t with
  |some (.interface _)=>none
  |some _=>some (.iface t<|g x)
  |none=>none
 |.makeFunc q first j=>match q with
  |.func f=>some (.func (.func f) (first.map g)<|j.map g)
  |_=>none
 |.slice t x u r v=>B5 P h t (g x) (u.map g) (r.map g) (v.map g)
 |.fieldAddr s x f=>match P.underlying s,g x with
  |some (.struct o),.pointer (some a)=>match o[f]? with
   |some fd=>if P.cellsOf fd.type=0 then none else some (.pointer<|some<|a.add fd.offset)
   |none=>none
  |_,_=>none
 |.field t x f=>match P.underlying t,g x with
  |some (.struct o),.agg m=>match o[f]? with
   |some fd=>iS P fd.type m.toList fd.offset
   |none=>none
  |_,_=>none
 |.indexAddr t x i=>match P.underlying t,g x,g i with
  |some (.array n e),.pointer<|some a,.int _ i=>if 0<=i/\i<n/\(P.info? e).isSome then some (.pointer<|some<|a.add<|i.toNat*P.cellsOf e) else none
  |some (.slice e),.slice (some a) n _,.int _ i=>if 0<=i/\i<n/\(P.info? e).isSome/\a.spot=none then some (.pointer<|some<|a.add<|i.toNat*P.cellsOf e) else none
  |_,_,_=>none
 |.index t x i=>match P.underlying t,g x,g i with
  |some (.array n e),.agg m,.int _ i=>if 0<=i/\i<n/\(P.info? e).isSome then iS P e m.toList (i.toNat*P.cellsOf e) else none
  |some .string,.string s,.int _ i=>if 0<=i then(s[i.toNat]?).map fun b=> .int .u8 b.toNat else none
  |_,_,_=>none
 |.extract t i=>match g t with
  |.tuple z=>z.toList[i]?
  |_=>none
 |.lookup t x ix ok=>zD P h t (g x) (g ix) ok
 |_=>none
inductive aW9 where
 |Cr|alloc|store|call|Et
 deriving DecidableEq
def eM:Op->aW9
 |.move _|.assign _|.pick ..|.build ..|.load ..|.nilCheck _|.binOp ..|.unOp ..|.convert ..|.makeInterface ..|.makeFunc ..|.slice ..|.fieldAddr ..
 |.field ..|.indexAddr ..|.index ..|.extract ..|.lookup ..=> .Cr
 |.alloc _|.box ..|.buildSlice ..|.makeSlice ..|.makeMap ..=> .alloc
 |.store ..|.mapUpdate ..=> .store
 |.call _=> .call
 |_=> .Et
def lE (h:AH) (size n:Nat):Value->HT
 |.slice none _ _=>if n=0 then some [] else none
 |.slice (some a) l _=>if n=0 then some [] else if n<=l then dE h a (n*size) else none
 |_=>none
def C9:Value->Option Nat
 |.slice _ n _=>some n
 |_=>none
def Ns (P:Program) (a:Array TypeId):Bool:=
 match(a[1]?).bind P.underlying with
 |some (.slice _)=>true
 |_=>false
def kH (i bytes:Nat) (e:TypeId) (h:AH) (s x:Value):Option (Value×AH):=
 match s,C9 x with
 |.slice f b d,some n=>
  match lE h i n x with
  |some new=>
   if !new.all gA||new.length !=n*i then none else
   if b+n<=d then
    match f with
    |none=>if n=0 then some (s,h) else none
    |some a=>if n=0 then some (s,h) else if a.spot.isSome then none else
     (fL h (a.add<|b*i) new).map fun l=>(.slice f (b+n) d,l)
   else if(b+n)*(bytes+1)<=2^46 then
    match f with
    |none=>if b=0 then some (.slice (some ⟨h.next,0,none⟩) n n,h.alloc<|.cells new e (0,0) false) else none
    |some a=>
     if a.spot=some 1 then(if b=0 then some (.slice (some ⟨h.next,0,none⟩) n n,h.alloc<|.cells new e (0,0) false) else none) else
     if a.spot=some 2 then
      (match h.get a.block with
      |some (.cells c j k _)=>
       if j=e/\h.base<=a.block/\k=(0,0)/\a.off<=c.length/\b=0/\d=0 then
        some (.slice (some ⟨h.next,0,none⟩) n n,(h.set a.block none).alloc<|.cells new e (0,0) false)
       else none
      |_=>none) else
     match dE h a (b*i),h.get a.block with
     |some g,some (.cells c j k x)=>
      if !g.all gA then none else
      if x then some (.slice (some ⟨h.next,0,none⟩) (b+n)<|b+n,h.alloc<|.cells (g++new) e (0,0) false)
      else if j=e/\h.base<=a.block/\k=(0,0)/\a.off+d*i<=c.length then
       some (.slice (some ⟨h.next,0,none⟩) (b+n)<|b+n,(h.set a.block none).alloc<|.cells (g++new) e (0,0) false)
      else none
     |_,_=>none
   else none
  |_=>none
 |_,_=>none
def aI7 (P:Program) (h:AH) (a:Array TypeId) (e:TypeId) (s x:Value):Option (Value×AH):=
 match(a[1]?).bind P.underlying,s,x,pH P e with
 |some (.int _),.slice none 0 0,.int _ n,some z=>if 0<n/\n<=1000/\0<P.cellsOf e/\P.bytesOf e<=1000 then some (.slice (some ⟨h.next,0,none⟩) n.toNat n.toNat,h.alloc<|.cells (gB z n.toNat) e (0,0) false) else none
 |_,_,_,_=>none
def Nr (P:Program) (h:AH) (a:Array TypeId) (s x:Value):Option (Value×AH):=
 match(a[0]?).bind P.underlying with
 |some (.slice e)=>if !Ns P a then aI7 P h a e s x else
  match pH P e with
  |some _=>kH (P.cellsOf e) (P.bytesOf e) e h s x
  |none=>none
 |_=>none
def gW (P:Program) (h:AH) (b:Builtin) (d:Array TypeId) (args:EK):Option (Value×AH):=
 match b,args with
 |.len,[x]=>match(d[0]?).bind P.underlying,x with
  |some .string,.string s=>some (.int .i64 s.size,h)
  |some (.array n _),_=>some (.int .i64 n,h)
  |some (.slice _),.slice _ n _=>some (.int .i64 n,h)
  |some (.map _ _),x=>(pj h x).map fun g=>(.int .i64 g.length,h)
  |_,_=>none
 |.append,[s,x]=>Nr P h d s x
 |.clear,[x]=>match(d[0]?).bind P.underlying,x with
  |some _,.slice none _ _=>some (.tuple #[],h)
  |some (.slice e),.slice (some a) n _=>
   if n=0 then some (.tuple #[],h) else
   match pH P e with
   |some z=>(fL h a<|gB z n).map fun f=>(.tuple #[],f)
   |none=>none
  |_,_=>none
 |.delete,[m,k]=>match d[0]? with
  |some t=>(Jo P h t m k).map fun f=>(.tuple #[],f)
  |none=>none
 |.cap,[x]=>match(d[0]?).bind P.underlying,x with
  |some (.slice _),.slice none _ c=>some (.int .i64 c,h)
  |_,_=>none
 |.min,[.int k x,.int _ y]=>some (.int k<|if y<x then y else x,h)
 |_,_=>none
end
end Go.Ab
variable {v:Value} {a l:EK} {P:Program} {s:Nat×Nat} {B:Nat} {w w':World}
namespace Go.Ab
open Go.RowKit
def A6 (ρ ρ':jB):Prop:=∀i x,ρ i=some x->ρ' i=some x
theorem A6.refl (ρ:jB):A6 ρ ρ:=fun _ _ h=>h
def A6.trans {a b c:jB} (h:A6 a b) (k:A6 b c):A6 a c:=fun i x d=>k i x<|h i x d
variable {ρ ρ':jB}
theorem Mx.mono (h:A6 ρ ρ') {f g:Fn} (k:Mx ρ f g):Mx ρ' f g:=by
 cases f<;>simp only[Mx] at k ⊢<;>try exact k
 obtain⟨b,s,a,c⟩:=k;exact⟨b,s,h _ _ a,c⟩
mutual
theorem aZ.mono {ρ ρ':jB} (h:A6 ρ ρ'):∀(v o:Value),aZ ρ v o->aZ ρ' v o
 |.bool _,_,k=>FA
 |.int _ _,_,k=>FA
 |.float _ _,_,k=>FA
 |.complex _ _ _,_,k=>FA
 |.string _,_,k=>FA
 |.pointer none,_,k=>FA
 |.pointer (some _),_,k=>by obtain⟨b,s,d,c⟩:=k;exact⟨b,s,h _ _ d,c⟩
 |.slice none _ _,_,k=>FA
 |.slice (some ⟨_,_,some _⟩) _ _,_,k=>by
  obtain⟨j,l,p,g,m,r,t⟩:=k;exact⟨j,l,p,g,m,fun y=>let⟨b,s,d,c⟩:=r y;⟨b,s,h _ _ d,c⟩,t⟩
 |.slice (some ⟨_,_,none⟩) _ _,_,k=>by obtain⟨b,s,g,d,c⟩:=k;exact⟨b,s,g,h _ _ d,c⟩
 |.map none,_,k=>FA
 |.map (some _),_,k=>by obtain⟨b,s,d,c⟩:=k;exact⟨b,s,h _ _ d,c⟩
 |.chan none,_,_=>EZ
 |.chan (some _),_,k=>FA
 |.func _ q e,_,k=>by
  obtain⟨i,f,a,j,l,m,c⟩:=k;exact⟨i,f,a,j.mono h,qN.mono h q f l,qN.mono h e a m,c⟩
 |.nilFunc,_,k=>FA
 |.iface _ v,_,k=>by obtain⟨u,x,c⟩:=k;exact⟨u,aZ.mono h v u x,c⟩
 |.nilIface,_,k=>FA
 |.agg e,_,k=>by obtain⟨a,n,c⟩:=k;exact⟨a,qN.mono h e a n,c⟩
 |.tuple e,_,k=>by obtain⟨a,n,c⟩:=k;exact⟨a,qN.mono h e a n,c⟩
theorem qN.mono {ρ ρ':jB} (h:A6 ρ ρ'):∀(v b:EP),qN ρ v b->qN ρ' v b
 |⟨l⟩,a,k=>by exact bH.mono h l a.toList k
theorem bH.mono {ρ ρ':jB} (h:A6 ρ ρ'):∀(l a:EK),bH ρ l a->bH ρ' l a
 |[],_,k=>by grind[bH]
 |v::l,_,k=>by
  obtain⟨c,b,d,e,f⟩:=k;exact⟨c,b,aZ.mono h v c d,bH.mono h l b e,f⟩
theorem fU {ρ:jB}:∀(v:Value),gR v=true->aZ ρ v v
 |.bool _,_=>EZ
 |.int _ _,_=>EZ
 |.float _ _,h=>FE
 |.complex _ _ _,h=>FE
 |.string _,_=>EZ
 |.pointer none,_=>EZ
 |.pointer (some _),h=>FE
 |.slice none _ _,_=>EZ
 |.slice (some _) _ _,h=>FE
 |.map none,_=>EZ
 |.map (some _),h=>FE
 |.chan _,h=>FE
 |.func _ _ _,h=>FE
 |.nilFunc,_=>EZ
 |.iface _ v,h=>by exact⟨v,fU v h,rfl⟩
 |.nilIface,_=>EZ
 |.agg a,h=>by exact⟨a,Rq a h,rfl⟩
 |.tuple a,h=>by exact⟨a,Rq a h,rfl⟩
theorem Rq {ρ:jB}:∀(v:EP),Dv v=true->qN ρ v v
 |⟨l⟩,h=>by exact tX l h
theorem tX {ρ:jB}:∀(l:EK),qD l=true->bH ρ l l
 |[],_=>by simp[bH]
 |v::l,h=>by
  simp[qD,dn] at h;exact⟨v,l,fU v h.1,tX l h.2,rfl⟩
end
theorem lH {a b:EP}:qN ρ a b↔bH ρ a.toList b.toList:=by cases a;simp[qN]
section lists
theorem bH.nil:bH ρ [] []:=by simp[bH]
theorem bH.cons {b:Value} (h:aZ ρ v b) (k:bH ρ l a):bH ρ (v::l) (b::a):=by
 grind[bH]
theorem bH.Zf {b:Value}:bH ρ (v::l) (b::a)↔aZ ρ v b/\bH ρ l a:=by
 grind[bH,bH.cons]
theorem bH.length:∀{l a:EK},bH ρ l a->a.length=l.length
 |[],a,h=>by grind[bH]
 |v::l,a,h=>by
  obtain⟨d,c,_,b,rfl⟩:=h;simp[bH.length b]
theorem bH.get:∀{l a:EK} {i:Nat} {v:Value},bH ρ l a->l[i]?=some v->∃b,a[i]?=some b/\aZ ρ v b
 |[],a,i,v,h,k=>by simp at k
 |u::l,a,0,v,h,k=>by
  grind[bH]
 |u::l,a,i+1,v,h,k=>by
  obtain⟨b,d,_,c,rfl⟩:=h;simpa using bH.get c k
def bH.gm (h:bH ρ l a) (k:l[i]?=none):a[i]?=none:=by
 rw[CA] at k ⊢;rwa [h.length]
theorem bH.getD (i:Nat) (h:bH ρ l a):aZ ρ (l.getD i undef) (a.getD i undef):=by
 cases k:l[i]? with
 |none=>
  have b:=h.gm k;grind[fU,undef,gR,Dv,qD]
 |some v=>
  have⟨v',hv,hr⟩:=h.get k;grind
theorem bH.append:∀{l a m b:EK},bH ρ l a->bH ρ m b->bH ρ (l++m) (a++b)
 |[],a,m,b,h,k=>by grind[bH]
 |v::l,a,m,b,h,k=>by
  obtain⟨f,e,c,d,rfl⟩:=h;exact bH.cons c<|bH.append d k
theorem bH.take:∀{l a:EK} (n:Nat),bH ρ l a->bH ρ (l.take n) (a.take n)
 |_,_,0,_=>by simp[bH.nil]
 |[],a,n+1,h=>by grind[bH,bH.nil]
 |v::l,a,n+1,h=>by
  obtain⟨e,d,b,c,rfl⟩:=h;exact bH.cons b<|bH.take n c
theorem bH.drop:∀{l a:EK} (n:Nat),bH ρ l a->bH ρ (l.drop n) (a.drop n)
 |_,_,0,h=>ES
 |[],a,n+1,h=>by grind[bH,bH.nil]
 |v::l,a,n+1,h=>by
  obtain⟨e,d,c,b,rfl⟩:=h;exact bH.drop n b
theorem bH.set:∀{l a:EK} (i:Nat) {v b:Value},bH ρ l a->aZ ρ v b->bH ρ (l.set i v) (a.set i b)
 |[],a,i,v,b,h,k=>by grind[bH,bH.nil]
 |u::l,a,0,v,b,h,k=>by
  grind[bH,bH.cons]
 |u::l,a,i+1,v,b,h,k=>by
  obtain⟨f,e,c,d,rfl⟩:=h;exact bH.cons c<|bH.set i d k
theorem bH.dK {m b:EK} (i:Nat) (h:bH ρ l a) (k:bH ρ m b):bH ρ (dK l i m) (dK a i b):=by
 unfold Ab.dK;rw[k.length];exact((h.take i).append k).append (h.drop _)
theorem bH.replicate {a:Value} (n:Nat) (h:aZ ρ v a):bH ρ (List.replicate n v) (List.replicate n a):=by
 induction n with
 |zero=>exact bH.nil
 |succ n b=>grind[bH.cons]
theorem bH.Kg {α:Type} {f g:α->Value} (h:∀x,aZ ρ (f x)<|g x):∀l:List α,bH ρ (l.map f) (l.map g)
 |[]=>bH.nil
 |x::l=>bH.cons (h x)<|bH.Kg h l
end lists
section Yj
def aZ.cells {f:Value} (h:aZ ρ v f) (m:An v=false):bH ρ v.cells.toList f.cells.toList:=by
 cases v with
 |agg p=>obtain⟨j,k,rfl⟩:=h;exact lH.1 k
 |chan r=>simp[An] at m
 |pointer a=>
  have d:=h;cases a with
  |none=>subst h;exact bH.cons d bH.nil
  |some a=>obtain⟨b,s,e,rfl⟩:=h;exact bH.cons d bH.nil
 |slice a l c=>
  have d:=h;cases a with
  |none=>subst h;exact bH.cons d bH.nil
  |some a=>
   obtain⟨i,o,sp⟩:=a;cases sp with
   |none=>obtain⟨b,s,g,e,_,_,rfl⟩:=h;exact bH.cons d bH.nil
   |some _=>obtain⟨_,_,n,g,_,_,rfl⟩:=h;exact bH.cons d bH.nil
 |map r=>
  have d:=h;cases r with
  |none=>subst h;exact bH.cons d bH.nil
  |some a=>obtain⟨b,s,e,rfl⟩:=h;exact bH.cons d bH.nil
 |func q a b=>have d:=h;obtain⟨_,_,_,_,_,_,rfl⟩:=h;exact bH.cons d bH.nil
 |iface t v=>have d:=h;obtain⟨_,_,rfl⟩:=h;exact bH.cons d bH.nil
 |tuple t=>have d:=h;obtain⟨_,_,rfl⟩:=h;exact bH.cons d bH.nil
 |_=>have d:=h;subst h;exact bH.cons d bH.nil
def aZ.rm {e:Value} (h:aZ ρ v e) (hc:gA v=true):e.oneCell'=true:=by
 cases v with
 |agg j=>simp[gA] at hc
 |chan r=>simp[gA] at hc
 |tuple t=>simp[gA] at hc
 |pointer a=>cases a with
  |none=>subst h;rfl
  |some a=>obtain⟨b,s,d,rfl⟩:=h;rfl
 |slice a l c=>cases a with
  |none=>subst h;rfl
  |some a=>
   obtain⟨i,o,sp⟩:=a
   cases sp with
   |none=>obtain⟨b,s,f,d,_,_,rfl⟩:=h;rfl
   |some _=>obtain⟨_,_,g,f,_,_,rfl⟩:=h;rfl
 |map r=>cases r with
  |none=>subst h;rfl
  |some a=>obtain⟨b,s,d,rfl⟩:=h;rfl
 |func k a b=>obtain⟨_,_,_,_,_,_,rfl⟩:=h;rfl
 |iface t v=>obtain⟨_,_,rfl⟩:=h;rfl
 |_=>subst h;rfl
end Yj
def pP (ρ:jB):List (Value×Value×Nat)->List MapEntry->Prop
 |[],a=>a=[]
 |(k,v,n)::l,a=>∃b c t,aZ ρ k b/\aZ ρ v c/\pP ρ l t/\a={key:=b,val:=c,born:=n}::t
theorem pP.mono {ρ ρ':jB} (h:A6 ρ ρ'):∀(l:List (Value×Value×Nat)) (es:List MapEntry),pP ρ l es->pP ρ' l es
 |[],_,k=>k
 |(_,_,_)::l,_,⟨e,f,t,a,b,c,d⟩=>⟨e,f,t,aZ.mono h _ _ a,aZ.mono h _ _ b,pP.mono h l t c,d⟩
def wP (P:Program) (ρ:jB) (s:Nat×Nat):oU->Obj->Prop
 |.cells c e n x,o=>∃i:EP,o= .cells i e n/\bH ρ c ((i.toList.drop s.2).take c.length)/\s.2+c.length+s.1*P.cellsOf e<=i.size/\(x=true->s.1=0/\s.2=0/\i.size=c.length)
 |.loop st Hg fn tmps params assign body d,o=>∃a k p,bH ρ tmps a/\ρ d=some (k,p)/\
   o= .loop {state:=st,pending:=Hg,fn:=fn,tmps:=⟨a⟩,params:=params,assign:=assign,body:=body,defers:=k}
 |.vA aI4,o=>o= .deferred (if aI4 then some [] else none)
 |.map l f,o=>∃g,pP ρ l g/\o= .map ⟨g⟩ f
 |.mapIter m since seen last,o=>∃j,(match m with|none=>j=none|some r=>∃b s,ρ r=some (b,s)/\j=some b)/\o= .mapIter j since ⟨seen⟩ last
 |.N4 s pos,o=>o= .stringIter s pos
theorem wP.mono (h:A6 ρ ρ') {b:oU} {o:Obj} (k:wP P ρ s b o):wP P ρ' s b o:=by
 cases b with
 |cells c e D x=>obtain⟨n,a,f,i⟩:=k;exact⟨n,a,bH.mono h _ _ f,i⟩
 |loop st Hg C l params assign j d=>obtain⟨z,q,y,a,f,i⟩:=k;exact⟨z,q,y,bH.mono h _ _ a,h _ _ f,i⟩
 |vA _=>exact k
 |map A c=>obtain⟨g,a,f⟩:=k;exact⟨g,pP.mono h _ _ a,f⟩
 |mapIter m _ _ _=>
  obtain⟨v,a,f⟩:=k;refine⟨v,?_,f⟩;cases m with
  |none=>exact a
  |some r=>obtain⟨b,s,t,u⟩:=a;exact⟨b,s,h _ _ t,u⟩
 |N4 s p=>exact k
structure pK (P:Program) (B:Nat) (ρ:jB) (h:AH) (w:World):Prop where
 oP:∀i o,h.get i=some o->∀b s,ρ i=some (b,s)->∃o',w.heap[b]?=some o'/\wP P ρ s o o'
 inj:∀i j b si sj,h.base<=i->h.base<=j->(h.get i).isSome->(h.get j).isSome->ρ i=some (b,si)->ρ j=some (b,sj)->i=j
 low:∀i b s,h.base<=i->(h.get i).isSome->ρ i=some (b,s)->B<=b
 old:∀i b s,i<h.base->ρ i=some (b,s)->b<B
 gO:∀i,h.next<=i->ρ i=none
 jD:∀i,h.next<=i->h.get i=none
 pO:∀g,g<P.globals.size->ρ g=some (g,(0,0))
 size:B<=w.heap.size
 bn:h.base<=h.next
structure mU (P:Program) (B:Nat) (ρ:jB) (h:AH) (w:World) (ρ':jB) (h':AH) (w':World):Prop where
 ext:A6 ρ ρ'
 inv:pK P B ρ' h' w'
 un:∀i,i<h.next->ρ i=none->ρ' i=none
 pF:∀i,i<h.next->ρ i=none->h'.get i=h.get i
 stay:∀i,i<h.next->h.get i=none->h'.get i=none
 frame:∀b,b<w.heap.size->(∀i s,h.base<=i->(h.get i).isSome->ρ i≠some (b,s))->w'.heap[b]?=w.heap[b]?
 range:∀i b s,h.base<=i->(h'.get i).isSome->ρ' i=some (b,s)->b<w.heap.size->∃j s',h.base<=j/\(h.get j).isSome/\ρ j=some (b,s')
 base:h'.base=h.base
 yR:∀i,i<h.base->h'.get i=h.get i
 next:h.next<=h'.next
 size:w.heap.size<=w'.heap.size
 os:w'.os=w.os
 out:w'.output=w.output
 tape:w'.tape=w.tape
theorem mU.refl {h:AH} (a:pK P B ρ h w):mU P B ρ h w ρ h w where
 ext:=A6.refl ρ
 inv:=a
 un:=fun _ _ h=>h
 pF:=ES
 stay:=ES
 frame:=ES
 range:=ES
 base:=rfl
 yR:=fun _ _=>rfl
 next:=ba _
 size:=ba _
 os:=rfl
 out:=rfl
 tape:=rfl
theorem mU.trans {ρ1 ρ2:jB} {h o p:AH} {r t:World} (a:mU P B ρ h w ρ1 o r) (b:mU P B ρ1 o r ρ2 p t):mU P B ρ h w ρ2 p t where
 ext:=a.ext.trans b.ext
 inv:=b.inv
 un:=fun i c d=>b.un i (o0 c a.next)<|a.un i c d
 pF:=fun i c d=>(b.pF i (o0 c a.next)<|a.un i c d).trans<|a.pF i c d
 stay:=fun i c d=>b.stay i (o0 c a.next)<|a.stay i c d
 frame:=fun x f d=>by
  refine(b.frame x (o0 f a.size) ?_).trans (a.frame x f d);intro i s l n m;rw[a.base] at l;have⟨j,q,e,g,k⟩:=a.range i x s l n m f;grind
 range:=fun i x s l n m f=>by
  obtain⟨j,q,e,g,k⟩:=b.range i x s HE n m<|o0 f a.size;rw[a.base] at e;exact a.range j x q e g k f
 base:=b.base.trans a.base
 yR:=fun i c=>(b.yR i HE).trans<|a.yR i c
 next:=hI a.next b.next
 size:=hI a.size b.size
 os:=b.os.trans a.os
 out:=b.out.trans a.out
 tape:=b.tape.trans a.tape
def mU.below {h h':AH} (a:pK P B ρ h w) (e:mU P B ρ h w ρ' h' w'):Below B w w':=
 ⟨e.os,e.tape,e.out,e.size,fun k d=>e.frame k (o0 d a.size) fun i s b f c=>absurd (a.low i k s b f c) ER⟩
end Go.Ab
variable {b r:Nat} {f:Nat->Value} {e t:TypeId} {x:Nat×(Nat×Nat)} {z:EK} {k kk:IntKind} {y:Operand} {n:Int} {es:List (Value×Value×Nat)}
namespace Go.Ab
open Go.RowKit
variable {ρ:jB} {h:AH}
def tC (ρ:jB) (i:Nat) (x:Nat×(Nat×Nat)):jB:=fun j=>if j=i then some x else ρ j
theorem bV:tC ρ i x i=some x:=by simp[tC]
theorem bY (h:j≠i):tC ρ i x j=ρ j:=by simp[tC,h]
theorem A6.tC (h:ρ i=none):A6 ρ (tC ρ i x):=by
 intro j y a;grind[bY]
variable {o:oU} {o':Obj}
theorem As (c:pK P B ρ h w) (hb:wP P (tC ρ h.next (w.heap.size,s)) s o o')
  (m:w'.heap=w.heap.push o') (y:w'.os=w.os) (t:w'.output=w.output) (n:w'.tape=w.tape):
  mU P B ρ h w (tC ρ h.next (w.heap.size,s)) (h.alloc o) w':=by
 have k:A6 ρ (tC ρ h.next (w.heap.size,s)):=A6.tC<|c.gO _<|ba _
 have a:∀j,(h.alloc o).get j=if j=h.next then some o else h.get j:=fun j=>AH.tQ c.bn
 refine {ext:=k,inv:=?_,un:=?_,pF:=?_,stay:=ES,frame:=?_,range:=?_,base:=rfl,yR:=?_,next:=EV,size:=ES,os:=y,out:=t,tape:=n}
 .refine {oP:=?_,inj:=?_,low:=?_,old:=?_,gO:=?_,jD:=?_,pO:=?_,size:=by rw[m];simp;exact tb c.size,bn:=tb c.bn}
  .intro i E r b s1 A;rw[a] at r;by_cases e:i=h.next
   .grind[bV]
   .rw[aXf e] at r;rw[bY e] at A;have⟨o2,h2,h3⟩:=c.oP i E r b s1 A;refine⟨o2,?_,h3.mono k⟩;grind
  .intro i j b C D d x l q f v;rw[a] at l q;by_cases e:i=h.next
   .by_cases p:j=h.next
    .rw[e,p]
    .rw[aXf p] at q;rw[bY p] at v;have⟨oj,hoj⟩:=cO.1 q;have⟨o2,h2,_⟩:=c.oP j oj hoj b D v;grind[bV]
   .rw[aXf e] at l;rw[bY e] at f;by_cases p:j=h.next
    .have⟨oi,hoi⟩:=cO.1 l;have⟨o2,h2,_⟩:=c.oP i oi hoi b C f;grind[bV]
    .rw[aXf p] at q;rw[bY p] at v;exact c.inj i j b C D d x l q f v
  .intro i b s1 d l f;rw[a] at l;by_cases e:i=h.next
   .subst e;rw[bV] at f;cases f;exact c.size
   .rw[aXf e] at l;rw[bY e] at f;exact c.low i b s1 d l f
  .intro i b s1 d f;rw[bY fun e=>by have:=c.bn;simp at d;omega] at f;exact c.old i b s1 d f
  .intro i u;simp at u;rw[bY ER];exact c.gO i ER
  .intro i u;simp at u;rw[a,aab];exact c.jD i ER
  .intro g r;exact k _ _<|c.pO g r
 .grind[bY]
 .grind
 .grind
 .intro i b s1 d l f z;by_cases e:i=h.next
  .grind[bV]
  .grind[bY]
 .intro i u;rw[a,aXf<|by have:=c.bn;omega]
theorem B2 (c:pK P B ρ h w) {D:oU} (n:h.base<=i) (t:h.get i=some D) (z:ρ i=some (b,s)) (hb:wP P ρ s o o')
  (p:w'.heap=w.heap.setIfInBounds b o') (y:w'.os=w.os) (u:w'.output=w.output) (q:w'.tape=w.tape):
  mU P B ρ h w ρ (h.set i<|some o) w':=by
 have m:∀j,(h.set i _).get j=if j=i then some o else h.get j:=fun j=>AH.kP n
 have a:∀j,((h.set i<|some o).get j).isSome->(h.get j).isSome:=ES
 have⟨ob,hob,_⟩:=c.oP i D t b s z
 have F:i<h.next:=by
  rcases ts i h.next with h1|h1
  exact h1;rw[c.jD i h1] at t;cases t
 refine {ext:=A6.refl _,inv:=?_,un:=fun _ _ h=>h,pF:=?_,stay:=ES,frame:=?_,range:=?_,base:=AH.fy,yR:=?_,next:=EV,size:=ES,os:=y,out:=u,tape:=q}
 .refine {oP:=?_,inj:=?_,low:=?_,old:=?_,gO:=?_,jD:=?_,pO:=c.pO,size:=by rw[p];simp;exact c.size,bn:=by simp;exact c.bn}
  .intro j H l A g f;rw[m] at l;by_cases e:j=i
   .grind
   .rw[aXf e] at l;have⟨o2,h2,h3⟩:=c.oP j H l A g f;refine⟨o2,?_,h3⟩;have G:b≠A:=by
     intro x;subst x;rcases ts j h.base with v|v;have:=c.old j b g v f;have:=c.low i b s n (by rw[t];rfl) z;omega;exact e<|c.inj j i b g s v n (by rw[l];rfl) (by rw[t];rfl) f z
    grind
  .intro j k r g sk d C l E f I;simp at d C;exact c.inj j k r g sk d C (a j l) (a k E) f I
  .intro j r g d l f;simp at d;exact c.low j r g d (a j l) f
  .intro j r g d f;simp at d;exact c.old j r g d f
  .intro j d;simp at d;exact c.gO j d
  .intro j d;simp at d;rw[m,aab];exact c.jD j d
 .grind
 .grind
 .grind
 grind
theorem aF6 (d:pK P B ρ h w) {s':Nat×Nat} {J:oU} (q:h.base<=i) (v:h.get i=some J) (E:ρ i=some (b,s)) (hb:wP P (tC ρ h.next (b,s')) s' o o')
  (C:w'.heap=w.heap.setIfInBounds b o') (D:w'.os=w.os) (x:w'.output=w.output) (r:w'.tape=w.tape):
  mU P B ρ h w (tC ρ h.next (b,s')) ((h.set i none).alloc o) w':=by
 have l:A6 ρ (tC ρ h.next (b,s')):=A6.tC<|d.gO _<|ba _
 have m:∀j,((h.set i none).alloc o).get j=if j=h.next then some o else if j=i then none else h.get j:=fun j=>by
  rw[AH.tQ<|by simp;exact d.bn,AH.kP q];simp
 have⟨ob,hob,_⟩:=d.oP i J v b s E
 have L:b<w.heap.size:=ES
 have M:i<h.next:=by
  rcases ts i h.next with h1|h1
  exact h1;rw[d.jD i h1] at v;cases v
 have K:=d.low i b s q (by rw[v];rfl) E
 have n:∀j t c,j≠h.next->((h.set i none).alloc o).get j≠none->ρ j=some (t,c)->(h.get j).isSome/\j≠i/\b≠t:=by
  intro j t c e u a;rw[m,aXf e] at u;by_cases y:j=i;grind;have I:(h.get j).isSome:=by cases hh:h.get j with|none=>grind|some _=>rfl
  refine⟨I,y,?_⟩;rintro rfl;rcases ts j h.base with z|z;have:=d.old j b c z a;omega;exact y<|d.inj j i b c s z q I (by rw[v];rfl) a E
 refine {ext:=l,inv:=?_,un:=?_,pF:=?_,stay:=ES,frame:=?_,range:=?_,base:=EV,yR:=?_,next:=EV,size:=ES,os:=D,out:=x,tape:=r}
 .refine {oP:=?_,inj:=?_,low:=?_,old:=?_,gO:=?_,jD:=?_,pO:=fun g A=>l _ _<|d.pO g A,size:=ES,bn:=by simp;grind}
  .intro j N u t c a;by_cases e:j=h.next
   .simp_all[aXg,bV]
   .rw[bY e] at a;have⟨_,y,hne⟩:=n j t c e ES a;rw[m,aXf e,aXf y] at u;have⟨o2,h2,h3⟩:=d.oP j N u t c a;exact⟨o2,ES,h3.mono l⟩
  .intro j k p c sk f H u O a F;simp at f H;by_cases e:j=h.next
   .grind[bY,bV]
   .rw[bY e] at a;have⟨s1,_,hne⟩:=n j p c e ES a;by_cases G:k=h.next
    .grind[bV]
    .rw[bY G] at F;have⟨s2,_,_⟩:=n k p sk G ES F;exact d.inj j k p c sk f H s1 s2 a F
  .intro j p c f u a;simp at f;by_cases e:j=h.next
   .grind[bV]
   .rw[bY e] at a;have⟨s1,_,_⟩:=n j p c e ES a;exact d.low j p c f s1 a
  .intro j p c f a;simp at f;rw[bY ER] at a;exact d.old j p c f a
  .intro j f;simp at f;rw[bY ER];exact d.gO j ER
  .intro j f;simp at f;rw[m,aab,aab];exact d.jD j ER
 .grind[bY]
 .grind
 .grind
 .grind[bV,bY]
 grind
theorem dZ (b o n:Nat):Addr.add ⟨b,o,none⟩ n=⟨b,o+n,none⟩:=by
 grind[Addr.add]
variable {c:EP}
theorem zR {e o:Nat} {a:Nat×Nat} (hb:w.heap[b]?=some (.cells c e a)):w.cell? ⟨b,o,none⟩=c[o]?:=by
 grind[World.cell?]
theorem zQ (m:pK P B ρ h w) {a:Addr} {n:Nat} (o:ρ a.block=some (b,s)) (d:dE h a n=some l):
  ∃f,(loadCells ⟨b,a.off+s.2,none⟩ n).run P w= .ok ⟨f⟩ w/\bH ρ l f/\a.spot=none/\l.length=n:=by
 rw[dE] at d
 cases hs:a.spot with
 |some x=>grind
 |none=>
  simp[hs,dd,aO,c9] at d
  split at d
  .rename_i c e q x k;split at d
   .cases d;obtain⟨u,t,g,rfl,i,p,_⟩:=m.oP _ _ k b s o;refine⟨_,?_,(i.drop _).take _,rfl,EW⟩;have:=run_loadCells_list (P:=P) (w:=w) ⟨b,a.off+s.2,none⟩ ((((g.toList.drop s.2).take c.length).drop a.off).take n) (fun j v r=>by
     grind[dZ,zR])
    grind
   .cases d
  .cases d
theorem xU {b e:Nat} {k:Nat×Nat} (g:k.2=0):∀(vs:EK) (w:World) (c:EP) (a i:Nat),w.heap[b]?=some (.cells c e k)->(∀v∈vs,v.oneCell'=true)->a+i+vs.length<=c.size->
  ∃d,(storeCells ⟨b,a,none⟩ vs i).run P w= .ok () d/\d.heap=w.heap.setIfInBounds b (.cells ⟨dK c.toList (a+i) vs⟩ e k)/\d.os=w.os/\d.output=w.output/\d.tape=w.tape
 |[],w,c,a,i,f,_,_=>by
  refine⟨w,by simp[storeCells],?_,rfl,rfl,rfl⟩;simp only[dK,hX,q6,AI,wK];have⟨hlt,hb'⟩:=fj.1 f;apply Array.ext_getElem?;intro j;by_cases l:b=j;subst l;simp[hlt,hb'];grind
 |v::vs,w,c,a,i,f,q,n=>by
  simp[k5] at n;have o:w.cell? ⟨b,a+i,none⟩=some c[a+i]:=by rw[zR f];grind
  have p:w.frozen? ⟨b,a+i,none⟩=false:=by simp[World.frozen?,f,g]
  have m:(w.setCell ⟨b,a+i,none⟩ v).heap[b]?=some (.cells (c.setIfInBounds (a+i) v) e k):=by
   simp[World.setCell,Array.getElem?_modify,f]
  have⟨d,hr,hh,ho,hu,ht⟩:=xU g vs _ _ a (i+1) m ES EW;refine⟨d,?_,?_,ho,hu,ht⟩;simp[storeCells,cr];simp_all[dZ,run_store,ei];rw[hh];apply Array.ext_getElem?;intro j;by_cases l:b=j;subst l;rw[CJ,CJ];simp only[Array.size_modify,(fj.1 f).1,e9];simp only[dK,DF,k5];rw[show a+(i+1)=a+i+1 by omega,CK EW];simp only[List.getElem_set_self,dx,hZ,List.take_set_of_le<|ba _,hK];grind[List.drop_set_of_lt];grind[Array.getElem?_setIfInBounds_ne,World.setCell]
variable {h':AH}
theorem Fj (t:pK P B ρ h w) {a:Addr} {vs d:EK} (y:ρ a.block=some (b,s)) (f:fL h a vs=some h') (o:bH ρ vs d):
  ∃m,(storeCells ⟨b,a.off+s.2,none⟩ d).run P w= .ok () m/\mU P B ρ h w ρ h' m/\a.spot=none:=by
 rw[fL] at f
 split at f
 .cases f
 rename_i g
 simp only[BA,not_or,Bool.not_eq_true,decide_eq_false_iff_not,Bool.not_eq_false'] at g
 split at f
 .rename_i c e J x r;split at f
  .rename_i hle;cases f;obtain⟨K,G,i,rfl,q,H,z⟩:=t.oP _ _ r b s y;have k:=q.length;have I:=o.length;have l:∀v∈d,v.oneCell'=true:=by
    intro v p;have⟨j,hj⟩:=List.getElem?_of_mem p;have n:j<vs.length:=by
     grind
    have⟨u,hu,hru⟩:=o.get<|aL n;rw[hj] at hu;cases hu;exact hru.rm ES
   simp only[ll] at k
   have⟨m,hrun,hheap,hos,hout,htape⟩:=xU (P:=P) hle.1 d w i (a.off+s.2) 0 G l ES
   refine⟨m,hrun,B2 t ER r y ⟨_,rfl,?_,?_,fun h=>⟨(z h).1,(z h).2.1,by
    grind[dK,List.length_append,List.length_take,List.length_drop]⟩⟩ hheap hos hout htape,(by cases hh:a.spot with|none=>rfl|some _=>grind)⟩
   .have:((dK i.toList (a.off+s.2+0) d).drop s.2).take (dK c a.off vs).length=dK ((i.toList.drop s.2).take c.length) a.off d:=by
     have F:(dK i.toList (a.off+s.2+0) d).drop s.2=dK (i.toList.drop s.2) a.off d:=by
      unfold dK;simp only[AI];rw[dx,BI EW,CL,u4,dx];rw[show a.off+s.2 - s.2=a.off by omega,show s.2+(a.off+d.length)=a.off+s.2+d.length by omega]
     rw[F];unfold dK;rw[CP,CP];simp only[bj,ll,q5,List.take_take];have A:min a.off c.length=a.off:=ER
     have C:a.off+vs.length+(c.length - (a.off+vs.length))=c.length:=ER
     rw[A,C];have D:min c.length a.off=a.off:=ER
     have E:min a.off (i.toList.length - s.2)=a.off:=ES
     rw[D,E];congr 1;congr 1;grind[List.take_of_length_le];grind
    rw[this]
    exact q.dK _ o
   grind[dK,List.length_append,List.length_take,List.length_drop]
  .cases f
 .cases f
theorem Sr (a:P.cellsOf t≠0):∃i,P.info? t=some i/\i.size=P.cellsOf t:=by
 rw[Program.cellsOf] at a ⊢;cases hi:P.info? t with
 |none=>grind
 |some i=>grind
def iQ {i:TypeInfo} (a:P.info? t=some i):(sizeOf t).run P w= .ok (P.cellsOf t) w:=by
 simp[sizeOf,typeInfo,a,Program.cellsOf]
theorem M5 {d:TypeDesc} (a:P.underlying t=some d):∃i,P.info? t=some i:=by
 grind[Program.underlying]
theorem N6 {b:Bool} (hb:lY P t=some b):(isAgg t).run P w= .ok b w:=by
 rw[lY] at hb;cases hd:P.underlying t with
 |none=>grind
 |some d=>
  rw[hd] at hb;simp[l4,Option.some.injEq] at hb;simp only[isAgg,cr,bb hd,aW];subst hb;cases d<;>rfl
theorem dq {b:Bool} (hb:lY P t=some b):∃i,P.info? t=some i:=by
 rw[lY] at hb;cases hd:P.underlying t with
 |none=>grind
 |some d=>exact M5 hd
theorem uS (b:pH P e=some z):
  ∃i a,P.info? e=some i/\i.zero=some a/\(zeroValue e).run P w= .ok a w/\a.cells.toList=z/\z.length=P.cellsOf e/\(∀ρ:jB,bH ρ z z):=by
 rw[pH] at b
 cases hi:P.info? e with
 |none=>grind
 |some i=>
  cases hz0:i.zero with
  |none=>grind
  |some a=>
   simp only[hi,hz0,AT] at b
   split at b
   .rename_i c;simp only[dn,beq_iff_eq] at c;cases b;refine⟨i,a,rfl,hz0,by simp_all[zeroValue,typeInfo],rfl,ES,fun ρ=>?_⟩;exact(fU (ρ:=ρ) a c.1.1).cells (by cases a<;>first|rfl|simp[gR] at c)
   .cases b
theorem Ap {cs c:EK} {a:Nat} (d:iS P t cs a=some v) (hc:bH ρ cs c):
  ∃e,(part t ⟨c⟩ a).run P w= .ok e w/\aZ ρ v e:=by
 rw[iS] at d
 cases hb:lY P t with
 |none=>grind
 |some b=>
  have⟨i,hi⟩:=dq hb
  rw[hb] at d
  cases b with
  |true=>
   simp only at d
   split at d
   .cases d;refine⟨.agg ⟨(c.drop a).take<|P.cellsOf t⟩,?_,?_⟩
    .simp only[part,cr,N6 hb,aW,e9,iQ hi,hM];grind
    .exact⟨_,by exact(hc.drop a).take _,rfl⟩
   .cases d
  |false=>
   have⟨e,hv',hr⟩:=hc.get d
   refine⟨e,?_,hr⟩
   simp only[part,cr,N6 hb,aW]
   simp[hv']
theorem Qk (m:pK P B ρ h w) {a:Addr} {k:Value} (o:aZ ρ (.pointer<|some a) k) (d:xW P h t a=some v):
  ∃g,(Instr.loadAt t k).run P w= .ok g w/\aZ ρ v g:=by
 obtain⟨b,s,n,rfl⟩:=o
 rw[xW] at d
 cases hb:lY P t with
 |none=>grind
 |some x=>
  have⟨i,hinf⟩:=dq hb
  rw[hb] at d
  cases x with
  |true=>
   simp[aV] at d
   obtain⟨l,r,rfl⟩:=d
   have⟨l',hrun,hrel,j,_⟩:=zQ m n r
   refine⟨.agg ⟨l'⟩,?_,?_⟩
   .rw[j];simp[Instr.loadAt,Instr.sureAddr,loadVar,cr,hM,aW,N6 hb,e9,iQ hinf,hrun]
   grind[aZ,qN]
  |false=>
   simp only at d
   split at d
   .cases d
   .have j:a.spot=none:=by cases hh:a.spot with|none=>rfl|some _=>grind
    split at d
    .rename_i c e A x q;obtain⟨C,u,z,rfl,p,y,_⟩:=m.oP _ _ q b s n;have⟨g,hv',hrel⟩:=p.get d;refine⟨g,?_,hrel⟩;have f:w.cell? ⟨b,a.off+s.2,none⟩=some g:=by
      rw[zR u];rw[List.getElem?_take] at hv';split at hv';grind;cases hv'
     rw[j]
     simp only[Instr.loadAt,Instr.sureAddr,loadVar,cr,hM,aW,N6 hb]
     simp[f]
    .cases d
variable {g:Value}
theorem Zh (n:pK P B ρ h w) {a:Addr} {k:Value} (l:aZ ρ (.pointer<|some a) g) (p:aZ ρ v k) (e:Qw P h t a v=some h'):
  ∃f,(Instr.storeAt t g k).run P w= .ok () f/\mU P B ρ h w ρ h' f:=by
 obtain⟨b,s,o,rfl⟩:=l
 unfold Qw kD at e
 cases ht:An v with
 |true=>grind
 |false=>
  simp only[ht,aO,c9] at e
  split at e
  .rename_i m;obtain⟨j,d⟩:=m;have⟨i,hinf⟩:=cO.1 d;have c:=p.cells ht;have⟨f,hrun,hevo,hspot⟩:=Fj n o e c;refine⟨f,?_,hevo⟩;have q:=c.length;simp only[Instr.storeAt,Instr.sureAddr,storeVar,cr,hM,aW,iQ hinf];grind
  .cases e
def bx (ρ:jB):List (Nat×Value)->List (Nat×Value)->Prop
 |[],l=>l=[]
 |(i,v)::l,b=>∃a t,aZ ρ v a/\bx ρ l t/\b=(i,a)::t
theorem Lv:∀(vs:EK) (c:EP) (a i:Nat),a+i+vs.length<=c.size->
  ((vs.zipIdx i).foldl (fun d (x:Value×Nat)=>d.setIfInBounds (a+x.2) x.1) c)=⟨dK c.toList (a+i) vs⟩
 |[],c,a,i,_=>by
  simp_all[Array.ext',dK]
 |v::vs,c,a,i,b=>by
  simp[k5] at b;simp[List.zipIdx_cons,CH];rw[Lv vs _ a _ EW];simp only[dK,DF,k5];rw[show a+(i+1)=a+i+1 by omega,CK EW];grind[List.drop_set_of_lt]
theorem Hx {place:Nat->Option (Nat×Nat)}:∀(b parts':List (Nat×Value)) (cells a r:EK),bx ρ b parts'->bH ρ cells a->I9 place cells b=some r->
  ∃j,Instr.fill place ⟨a⟩ parts'=some ⟨j⟩/\bH ρ r j
 |[],parts',cells,a,r,k,g,e=>by
  subst k;simp[I9,Option.some.injEq] at e;subst e;exact⟨_,rfl,g⟩
 |(i,v)::b,parts',cells,a,r,k,g,e=>by
  obtain⟨s,t,q,p,rfl⟩:=k;simp[I9] at e;split at e;rename_i f size u l d;rw[kD] at d;split at d;cases d;cases d;split at e;rename_i m;have c:=q.cells ES;have o:=c.length;have n:=g.length;have⟨j,hr',hrel⟩:=Hx b t _ _ r p (g.dK f c) e;refine⟨j,?_,hrel⟩;simp only[Instr.fill,l];simp[CB] at o m;rw[aXf];rw[<-Array.foldl_toList,Array.toList_zipIdx,Lv s.cells.toList _ f 0 EW];grind;grind;cases e;cases e
theorem bx.map {α:Type} {f g:α->Value} {k:α->Nat} (a:∀x,aZ ρ (f x)<|g x):∀l:List α,bx ρ (l.map fun p=>(k p,f p)) (l.map fun p=>(k p,g p))
 |[]=>rfl
 |x::l=>⟨g x,_,a x,bx.map a l,rfl⟩
theorem Qj:∀(fs:List Field),(∀f∈fs,(P.info? f.type).isSome)->
  (fs.mapM (m:=Sem) fun f=>do pure (f.offset,<-sizeOf f.type)).run P w= .ok (fs.map fun f=>(f.offset,P.cellsOf f.type)) w
 |[],_=>EV
 |f::fs,a=>by
  have⟨i,hi⟩:=cO.1<|a f ei;simp only[List.mapM_cons,cr,iQ hi,aW,hM,Qj fs ES,kx]
theorem db {a:List (Nat×Value)} {parts':Array (Nat×Value)} (p:bx ρ a parts'.toList) (b:J8 P t a=some v):
  ∃q,(Instr.build t parts').run P w= .ok q w/\aZ ρ v q:=by
 rw[J8] at b
 split at b
 .rename_i z d o g;have⟨i,zv,_,_,hzr,hzc,_,hzz⟩:=uS (w:=w) o;split at b
  .simp[aV] at b;obtain⟨l,j,rfl⟩:=b;have⟨r',hr',hrel⟩:=Hx a parts'.toList z z l p (hzz ρ) j;refine⟨_,?_,HJ⟩;have c:zv.cells=⟨z⟩:=GN
   have k:(d.mapM (m:=Sem) fun f=>do pure (f.offset,<-sizeOf f.type)).run P w= .ok (d.map fun f=>(f.offset,P.cellsOf f.type)) w:=by
    rw[Array.mapM_eq_mapM_toList];simp only[Sem.run_map];rw[Qj d.toList fun f s=>by
     grind[Array.all_eq_true']]
    simp[aW,Result.ok.injEq,and_true];grind
   simp only[Instr.build,cr,hzr,aW,bb g,k,c]
   simp_all
  .cases b
 .rename_i z n e o g;have⟨i,zv,_,_,hzr,hzc,_,hzz⟩:=uS (w:=w) o;split at b
  .rename_i r;have⟨ie,hie⟩:=cO.1 r;simp[aV] at b;obtain⟨l,j,rfl⟩:=b;have⟨r',hr',hrel⟩:=Hx a parts'.toList z z l p (hzz ρ) j;refine⟨_,?_,HJ⟩;have c:zv.cells=⟨z⟩:=GN
   simp only[Instr.build,cr,hzr,aW,bb g,iQ hie,c,hr']
   rfl
  .cases b
 .cases b
def Kf (ρ:jB):EO->EO->Prop
 |none,v=>v=none
 |some v,a=>∃u,aZ ρ v u/\a=some u
theorem Kf.map {c a:Operand->Value} (b:∀x,aZ ρ (c x)<|a x) (o:Option Operand):Kf ρ (o.map c) (o.map a):=by
 cases o with
 |none=>rfl
 |some x=>exact⟨_,b x,rfl⟩
theorem xE {a:Value} (c:aZ ρ v a) {d y:Nat} (e:y<=b) (hb:qI (some v) d y=some r):(∀code,(Instr.sliceBound a b code).run P w= .ok r w)/\r<=y:=by
 unfold qI at hb;grind[aZ,run_sliceBound]
theorem Bh {n i f o j p:EO} (a:Kf ρ n o) (e:Kf ρ i j) (k:Kf ρ f p) (isS:Bool) {len cap m q l:Nat} (hc:cap<=b)
  (r:qI f cap cap=some m) (g:(if i.isNone&&f.isSome then none else qI i len m)=some q) (c:qI n 0 q=some l):
  (Instr.sliceBounds isS len b o j p).run P w= .ok (l,q,if f.isSome then m else b) w/\m<=cap/\l<=q/\(f=none->m=cap):=by
 cases f with
 |none=>
  subst k
  simp[qI,Option.some.injEq] at r;subst r
  cases i with
  |none=>
   subst e
   simp[qI] at g;subst g
   cases n with
   |none=>subst a;simp[qI] at c;subst c;simp[Instr.sliceBounds]
   |some v=>
    obtain⟨u,d,rfl⟩:=a
    have⟨hr,hle⟩:=xE (P:=P) (w:=w) d (ba _) c
    simp_all[Instr.sliceBounds]
  |some v=>
   obtain⟨u,d,rfl⟩:=e
   have⟨hr,hle⟩:=xE (P:=P) (w:=w) d hc g
   cases n with
   |none=>subst a;simp[qI] at c;subst c;simp[Instr.sliceBounds,hr]
   |some v=>
    obtain⟨u,d,rfl⟩:=a
    have⟨hr2,hle2⟩:=xE (P:=P) (w:=w) d (ba _) c
    simp_all[Instr.sliceBounds]
 |some x=>
  obtain⟨t,s,rfl⟩:=k
  have⟨hr0,hle0⟩:=xE (P:=P) (w:=w) s hc r
  cases i with
  |none=>simp at g
  |some v=>
   obtain⟨u,d,rfl⟩:=e
   have⟨hr,hle⟩:=xE (P:=P) (w:=w) d (ba _) g
   cases n with
   |none=>simp[Kf] at a;simp[qI] at c;subst c;simp_all[Instr.sliceBounds]
   |some v=>
    obtain⟨u,d,rfl⟩:=a
    have⟨hr2,hle2⟩:=xE (P:=P) (w:=w) d (ba _) c
    simp_all[Instr.sliceBounds]
theorem Zq (hi:pK P B ρ h w) {x Z:Value} {X E o G D H:EO} (L:aZ ρ x Z) (n:Kf ρ X G) (k:Kf ρ E D) (g:Kf ρ o H)
  (d:B5 P h t x X E o=some v):∃Y,(Instr.sliceAt t Z G D H).run P w= .ok Y w/\aZ ρ v Y:=by
 unfold B5 at d
 split at d
 .rename_i e len u A;subst L;split at d
  .rename_i m M;split at d
   .rename_i C z;split at d
    .rename_i l I;split at d
     .rename_i J;cases d;have⟨i,f⟩:=cO.1 J;have⟨j,_,_,N⟩:=Bh (P:=P) (w:=w) n k g true (ba u) M z I;have S:(if o.isSome then m else u)=m:=FY
      rw[S] at j
      refine⟨.slice none (C - l)<|m - l,?_,EZ⟩
      simp only[Instr.sliceAt,Instr.slice,cr,bb A,aW,j,iQ f,hM,Option.map_none]
      simp
     .cases d
    .cases d
   .cases d
  .cases d
 .rename_i e a len u A;obtain⟨ab,Q,q⟩:=a;split at d
  .rename_i m M;split at d
   .rename_i C z;split at d
    .rename_i l I;split at d
     .rename_i U;obtain⟨sp,rfl⟩:∃sp,q=some sp:=by cases q with|none=>simp at U|some sp=>grind
      split at d
      .rename_i J;obtain⟨f,rfl,rfl⟩:=J;cases d;have⟨i,f⟩:=cO.1 f;obtain⟨_,_,O,r,_,_,rfl⟩:=L;have⟨j,hmc,hlh,N⟩:=Bh (P:=P) (w:=w) n k g true (AK r) M z I;obtain rfl:m=0:=ER
       have hz:C=0:=by
        cases E with
        |none=>
         simp_all
        |some v=>
         unfold qI at z;grind
       subst hz
       obtain rfl:l=0:=ER
       cases hms:o.isSome with
       |true=>
        refine⟨.slice (some O) 0 0,?_,?_⟩
        .simp[Instr.sliceAt,Instr.slice,cr,bb A,aW,j,iQ f,hM,l4,hms,e9]
        .simp only[e9,xJ,aZ];grind
       |false=>
        refine⟨.slice (some<|if r=0 then O else O.add (0*P.cellsOf e)) 0 r,?_,?_⟩
        .simp only[Instr.sliceAt,Instr.slice,cr,bb A,aW,j,iQ f,hM,l4,hms,aO,c9,DZ];split<;>rfl
        .simp only[aO,c9,aPo,aZ];grind
      .cases d
     .have U:q=none:=FY
      subst U
      obtain⟨b,s,r,W,R,α,rfl⟩:=L
      split at d
      .rename_i J;have⟨i,f⟩:=cO.1 J.1;have⟨j,hmc,hlh,N⟩:=Bh (P:=P) (w:=w) n k g true R M z I;have K:(Instr.sliceAt t (.slice (some ⟨b,Q+s.2,none⟩) len r) G D H).run P w=
         .ok (.slice (some<|if(if o.isSome then m else r)=l then⟨b,Q+s.2,none⟩ else⟨b,Q+s.2+l*P.cellsOf e,none⟩) (C - l)<|(if o.isSome then m else r) - l) w:=by
        simp only[Instr.sliceAt,Instr.slice,cr,bb A,aW,j,iQ f,hM,l4,dZ]
        grind
       refine⟨_,K,?_⟩
       split at d
       .rename_i F;subst F;obtain rfl:C=m:=ER
        split at d
        .cases d;simp_all[e9,xJ,aZ]
        .have T:o=none:=FY
         subst T
         have N:=N rfl
         split at d
         .rename_i hex;cases d;rw[qU] at hex;split at hex
          .rename_i c el fz x hg;cases hex;have⟨_,_,_,_,_,_,hx0⟩:=hi.oP _ _ hg b s W;simp only[dd,aO,c9,xJ,aZ];grind
          .cases hex
         .cases d;rw[dZ];simp only[dd,aO,c9,Em,aZ];rw[BK];refine⟨trivial,trivial,_,_,ER,fun _=>⟨b,s,W,ER,fun V=>?_⟩,rfl⟩;grind
         .cases d
       .rename_i F;cases d;cases o with
        |none=>
         simp[dd,aO,c9]
         rw[aab,dZ]
         grind[aZ]
        |some y=>
         simp[DG,e9]
         rw[dZ,aXf F]
         grind[aZ]
      .cases d
    .cases d
   .cases d
  .cases d
 .rename_i s A;simp only[aZ] at L;subst L;split at d
  .cases d
  .rename_i p;have p:o=none:=FY
   subst p
   split at d
   .rename_i C z;split at d
    .rename_i l I;cases d;obtain⟨j,_⟩:=Bh (P:=P) (w:=w) n k g false (ba s.size) (m:=s.size) rfl (by simpa using z) I;simp only[Kf] at g;subst g;refine⟨.string<|s.extract l C,?_,FU⟩;simp only[Instr.sliceAt,Instr.slice,cr,bb A,aW,dd,aO,c9,hM] at j ⊢;simp[j]
    .cases d
   .cases d
 .cases d
theorem yM {d:Nat} {eq:TypeId->Value->Value->Option Bool} (heq:∀t x y j k r,aZ ρ x j->aZ ρ y k->eq t x y=some r->(Op.equalIn d t j k).run P w= .ok r w)
  {xs ys a b:EK} (g:bH ρ xs a) (i:bH ρ ys b):∀(fs:List Field) (r:Bool),pR P eq xs ys fs=some r->(Op.eqFields d ⟨a⟩ ⟨b⟩ fs).run P w= .ok r w
 |[],r,h=>by simp_all[pR,Option.some.injEq,Op.eqFields]
 |f::fs,r,h=>by
  simp[pR] at h;split at h;rename_i e;simp[Op.eqFields,e,ne_eq,not_true_eq_false,c9];exact yM heq g i fs r h;rename_i e;simp only[Op.eqFields,ne_eq,e,not_false_eq_true,e9,cr];split at h;rename_i x y l m;have⟨j,hxr,hxv⟩:=Ap (w:=w) l g;have⟨k,hyr,hyv⟩:=Ap (w:=w) m i;simp only[hxr,hyr,aW];split at h;rename_i c;simp only[heq _ _ _ _ _ _ hxv hyv c,aW];simpa using yM heq g i fs r h;rename_i c;cases h;simp[heq _ _ _ _ _ _ hxv hyv c];cases h;cases h
theorem Gh {d:Nat} {e:TypeId} {eq:TypeId->Value->Value->Option Bool} (heq:∀t x y f g r,aZ ρ x f->aZ ρ y g->eq t x y=some r->(Op.equalIn d t f g).run P w= .ok r w)
  {xs ys a b:EK} (j:bH ρ xs a) (k:bH ρ ys b):∀(is:EM) (r:Bool),uM P eq e xs ys is=some r->(Op.eqItems d e (P.cellsOf e) ⟨a⟩ ⟨b⟩ is).run P w= .ok r w
 |[],r,h=>by simp_all[uM,Option.some.injEq,Op.eqItems]
 |i::is,r,h=>by
  simp[uM] at h;simp only[Op.eqItems,cr];split at h;rename_i x y l m;have⟨f,hxr,hxv⟩:=Ap (w:=w) l j;have⟨g,hyr,hyv⟩:=Ap (w:=w) m k;simp only[hxr,hyr,aW];split at h;rename_i c;simp only[heq _ _ _ _ _ _ hxv hyv c,aW];simpa using Gh heq j k is r h;rename_i c;cases h;simp[heq _ _ _ _ _ _ hxv hyv c];cases h;cases h
set_option maxHeartbeats 1000000 in
theorem aAl (d:Nat):∀(t:TypeId) (x y o p:Value) (r:Bool),aZ ρ x o->aZ ρ y p->Fo P d t x y=some r->(Op.equalIn d t o p).run P w= .ok r w:=by
 induction d with
 |zero=>simp_all[Fo]
 |succ d q=>
  intro t x y o p r g f h;unfold Fo at h;split at h;rename_i c;subst g f;cases h;simp[Op.equalIn,bb c];rename_i c;subst g f;split at h;rename_i z;cases h;simp[Op.equalIn,bb c,z];cases h;rename_i c;subst g f;cases h;simp[Op.equalIn,bb c];rename_i b c;subst g;cases h;cases b with
  |none=>subst f;simp[Op.equalIn,bb c]
  |some b=>obtain⟨_,_,_,rfl⟩:=f;simp[Op.equalIn,bb c]
  rename_i c;obtain⟨_,_,_,rfl⟩:=g;subst f;cases h;simp[Op.equalIn,bb c];rename_i c;subst g f;cases h;simp[Op.equalIn,bb c];rename_i c;subst g;obtain⟨_,_,rfl⟩:=f;cases h;simp[Op.equalIn,bb c];rename_i c;obtain⟨_,_,rfl⟩:=g;subst f;cases h;simp[Op.equalIn,bb c];rename_i s A C c;obtain⟨l,j,rfl⟩:=g;obtain⟨m,k,rfl⟩:=f;split at h;cases h;have v:P.fieldsOf t=s:=by simp[Program.fieldsOf,c]
  rw[run_equalIn_struct w d t l m ES ES,v];exact yM q (lH.1 j) (lH.1 k) _ _ h;rename_i n e A C c;obtain⟨l,j,rfl⟩:=g;obtain⟨m,k,rfl⟩:=f;split at h;rename_i u;have⟨i,hi⟩:=cO.1 u;rw[run_equalIn_array w d l m c hi];exact Gh q (lH.1 j) (lH.1 k) _ _ h;cases h;rename_i b _ _ c;simp[aZ] at g;subst g;cases h;cases b with
  |none=>subst f;simp[Op.equalIn,bb c]
  |some b=>
   obtain⟨_,_,sp⟩:=b;cases sp with
   |none=>obtain⟨_,_,_,_,_,_,rfl⟩:=f;simp[Op.equalIn,bb c]
   |some _=>obtain⟨_,_,_,_,_,_,rfl⟩:=f;simp[Op.equalIn,bb c]
  rename_i a _ _ _ _ c;simp[aZ] at f;subst f;cases h;obtain⟨_,_,sp⟩:=a;cases sp with
  |none=>obtain⟨_,_,_,_,_,_,rfl⟩:=g;simp[Op.equalIn,bb c]
  |some _=>obtain⟨_,_,_,_,_,_,rfl⟩:=g;simp[Op.equalIn,bb c]
  rename_i b c;subst g;cases h;cases b with
  |none=>subst f;simp[Op.equalIn,bb c]
  |some b=>obtain⟨_,_,_,rfl⟩:=f;simp[Op.equalIn,bb c]
  rename_i c;obtain⟨_,_,_,rfl⟩:=g;subst f;cases h;simp[Op.equalIn,bb c];rename_i c;subst g f;cases h;simp[Op.equalIn,bb c];rename_i c;subst g;obtain⟨_,_,_,_,_,_,rfl⟩:=f;cases h;simp[Op.equalIn,bb c];rename_i c;obtain⟨_,_,_,_,_,_,rfl⟩:=g;subst f;cases h;simp[Op.equalIn,bb c];cases h
variable {op:BinOp}
theorem Ug {x:Operand} {a b i:Value} (d:aZ ρ a g) (hb:aZ ρ b i) (m:An a=false) (k:An b=false) (n:Lz P t x y a b=true):
  (eqGuard op t x y g i).run P w= .ok () w:=by
 cases a with
 |chan r=>simp[An] at m
 |nilIface=>
  subst d
  cases b with
  |chan r=>simp[An] at k
  |nilIface=>
   subst hb
   simp[Lz,BA] at n
   cases x with
   |const c=>rw[eqGuard_nil_constL];rfl
   |_=>
    cases y with
    |const c=>rw[eqGuard_nil_constR];rfl
    |_=>grind[Cg]
  |iface u v=>obtain⟨_,_,rfl⟩:=hb;rw[eqGuard_nil_iface];rfl
  |agg e=>obtain⟨_,_,rfl⟩:=hb;cases op<;>rfl
  |tuple e=>obtain⟨_,_,rfl⟩:=hb;cases op<;>rfl
  |func j f c=>obtain⟨_,_,_,_,_,_,rfl⟩:=hb;cases op<;>rfl
  |pointer a=>cases a with
   |none=>subst hb;cases op<;>rfl
   |some a=>obtain⟨_,_,_,rfl⟩:=hb;cases op<;>rfl
  |map a=>cases a with
   |none=>subst hb;cases op<;>rfl
   |some a=>obtain⟨_,_,_,rfl⟩:=hb;cases op<;>rfl
  |slice a _ _=>cases a with
   |none=>subst hb;cases op<;>rfl
   |some a=>
    obtain⟨_,_,sp⟩:=a
    cases sp with
    |none=>obtain⟨_,_,_,_,_,_,rfl⟩:=hb;cases op<;>rfl
    |some _=>obtain⟨_,_,_,_,_,_,rfl⟩:=hb;cases op<;>rfl
  |_=>subst hb;cases op<;>rfl
 |iface u v=>obtain⟨_,_,rfl⟩:=d;rw[eqGuard_at_iface];rfl
 |tuple e=>obtain⟨_,_,rfl⟩:=d;rw[eqGuard_at_tuple];rfl
 |func j f c=>obtain⟨_,_,_,_,_,_,rfl⟩:=d;rw[eqGuard_at_func];rfl
 |pointer a=>cases a with
  |none=>simp_all[aZ,eqGuard_at_pointer]
  |some a=>obtain⟨_,_,_,rfl⟩:=d;rw[eqGuard_at_pointer];rfl
 |map a=>cases a with
  |none=>simp_all[aZ,eqGuard_at_map]
  |some a=>obtain⟨_,_,_,rfl⟩:=d;rw[eqGuard_at_map];rfl
 |slice a _ _=>cases a with
  |none=>simp_all[aZ,eqGuard_at_slice]
  |some a=>
   obtain⟨_,_,sp⟩:=a
   cases sp with
   |none=>obtain⟨_,_,_,_,_,_,rfl⟩:=d;rw[eqGuard_at_slice];rfl
   |some _=>obtain⟨_,_,_,_,_,_,rfl⟩:=d;rw[eqGuard_at_slice];rfl
 |bool _=>simp_all[aZ,eqGuard_at_bool]
 |int _ _=>simp_all[aZ,eqGuard_at_int]
 |float _ _=>simp_all[aZ,eqGuard_at_float]
 |complex _ _ _=>simp_all[aZ,eqGuard_at_complex]
 |string _=>simp_all[aZ,eqGuard_at_string]
 |nilFunc=>simp_all[aZ,eqGuard_at_nilFunc]
 |agg e=>
  obtain⟨l,_,rfl⟩:=d
  cases b with
  |agg o=>
   grind[aZ,Lz,Bool.not_eq_true',run_eqGuard_agg]
  |chan r=>simp[An] at k
  |iface u v=>obtain⟨_,_,rfl⟩:=hb;cases op<;>rfl
  |tuple e=>obtain⟨_,_,rfl⟩:=hb;cases op<;>rfl
  |func j f c=>obtain⟨_,_,_,_,_,_,rfl⟩:=hb;cases op<;>rfl
  |pointer a=>cases a with
   |none=>subst hb;cases op<;>rfl
   |some a=>obtain⟨_,_,_,rfl⟩:=hb;cases op<;>rfl
  |map a=>cases a with
   |none=>subst hb;cases op<;>rfl
   |some a=>obtain⟨_,_,_,rfl⟩:=hb;cases op<;>rfl
  |slice a _ _=>cases a with
   |none=>subst hb;cases op<;>rfl
   |some a=>
    obtain⟨_,_,sp⟩:=a
    cases sp with
    |none=>obtain⟨_,_,_,_,_,_,rfl⟩:=hb;cases op<;>rfl
    |some _=>obtain⟨_,_,_,_,_,_,rfl⟩:=hb;cases op<;>rfl
  |_=>subst hb;cases op<;>rfl
def G8 {d:Nat} {x y:Value} {r:Bool} (h:Fo P d t x y=some r):An x=false/\An y=false:=by
 cases d with
 |zero=>simp[Fo] at h
 |succ d=>unfold Fo at h;split at h<;>first|exact⟨rfl,rfl⟩|cases h
theorem aHy {m:Int} (a:Se op k m n=some v):(binOp op t (.int k m)<|.int k n).run P w= .ok v w/\∀ρ:jB,aZ ρ v v:=by
 cases op<;>simp only[Se,aSs,l4,Option.some.injEq] at a<;>try cases a
 case add=>exact⟨by rw[binOp_add];rfl,fun ρ=>FU⟩
 case sub=>exact⟨by rw[binOp_sub];rfl,fun ρ=>FU⟩
 case mul=>exact⟨by rw[binOp_mul];rfl,fun ρ=>FU⟩
 case quo=>
  split at a;cases a;cases a;simp_all[binOp_quo,Op.intDiv,aZ]
 case rem=>
  split at a;cases a;cases a;simp_all[binOp_rem,Op.intDiv,aZ]
 case eql=>simp_all[binOp_eql,aZ]
 case neq=>simp_all[binOp_neq,aZ]
 case lss=>simp_all[binOp_lss,aZ]
 case leq=>simp_all[binOp_leq,aZ]
 case gtr=>simp_all[binOp_gtr,aZ]
 simp_all[binOp_geq,aZ]
theorem Ge {a b d e:Value} {r:Bool} (l:aZ ρ a d) (hb:aZ ρ b e) (g:Fo P 10000 t a b=some r) (o:∀k m i n,¬(a= .int k m/\b= .int i n)) (p:∀m n,¬(a= .string m/\b= .string n)):
  (binOp .eql t d e).run P w= .ok (.bool r) w/\(binOp .neq t d e).run P w= .ok (.bool !r) w:=by
 have y:(Op.equal t d e).run P w= .ok r w:=aAl 10000 t a b d e r l hb g
 have⟨h1,h2⟩:=G8 g
 have s:∀op,(op=BinOp.eql\/op=BinOp.neq)->binOp op t d e=(if op= .eql then(do pure (.bool<|<-Op.equal t d e):Sem Value) else do pure (.bool<|!(<-Op.equal t d e))):=by
  intro op q;cases a with
  |chan r=>simp[An] at h1
  |int k m=>
   cases b with
   |int i n=>grind
   |_=>
    simp_all[Fo]
  |string m=>
   cases b with
   |string n=>grind
   |_=>
    simp_all[Fo]
  |float k m=>simp_all[Fo]
  |complex k m n=>simp_all[Fo]
  |tuple j=>simp_all[Fo]
  |bool c=>grind[aZ,binOp]
  |nilFunc=>grind[aZ,binOp]
  |nilIface=>grind[aZ,binOp]
  |iface u v=>grind[aZ,binOp]
  |func x f c=>grind[aZ,binOp]
  |agg j=>grind[aZ,binOp]
  |pointer a=>cases a with
   |none=>grind[aZ,binOp]
   |some a=>grind[aZ,binOp]
  |map a=>cases a with
   |none=>grind[aZ,binOp]
   |some a=>grind[aZ,binOp]
  |slice a _ _=>cases a with
   |none=>grind[aZ,binOp]
   |some a=>
    obtain⟨_,_,sp⟩:=a
    cases sp with
    |none=>grind[aZ,binOp]
    |some _=>grind[aZ,binOp]
 simp_all
theorem aAj {x:Operand} {a b f:Value} (d:aZ ρ a f) (hb:aZ ρ b g) (c:Yo P op t x y a b=some v):
  ∃i,(do eqGuard op t x y f g;binOp op t f g:Sem Value).run P w= .ok i w/\aZ ρ v i:=by
 unfold Yo at c
 split at c
 .simp[aZ] at d hb;split at c
  .rename_i k;have⟨h1,h2⟩:=aHy (P:=P) (w:=w) (t:=t) c;grind[Sem.run_bind,eqGuard_at_int,Sem.run_pure,Result.andThen_ok]
  .cases c
 .simp only[aZ] at d hb;subst d hb;split at c<;>cases c
  .exact⟨_,FJ,FU⟩
  .exact⟨_,FJ,FU⟩
 .split at c
  .split at c
   .simp only[aV] at c;obtain⟨r,e,rfl⟩:=c;have⟨h1,h2⟩:=G8 e;refine⟨.bool r,?_,EZ⟩;grind[Sem.run_bind,Ug,Result.andThen_ok,Ge]
   .cases c
  .split at c
   .rename_i j;simp only[aV] at c;obtain⟨r,e,rfl⟩:=c;have⟨h1,h2⟩:=G8 e;refine⟨.bool !r,?_,EZ⟩;simp[cr,Ug d hb h1 h2 j,aW,(Ge d hb e (ES)<|ES).2]
   .cases c
  .cases c
theorem Hj {o:Obj} (a:w.heap[r]?=some o) (hc:∀c e f,o≠.cells c e f):(getObj r).run P w= .ok o w:=by
 grind[getObj,Sem.run]
theorem xX {o:Obj} (a:w.heap[r]?=some o) (hc:∀c e f,o≠.cells c e f):(setObj r o').run P w= .ok () {w with heap:=w.heap.setIfInBounds r o'}:=by
 grind[setObj,Sem.run]
theorem uD {es:Array MapEntry} {c:Nat} (a:w.heap[r]?=some (.map es c)):(getObj r).run P w= .ok (.map es c) w:=
 Hj a ES
theorem Cc {es:Array MapEntry} {c:Nat} (a:w.heap[r]?=some (.map es c)):(setObj r o').run P w= .ok () {w with heap:=w.heap.setIfInBounds r o'}:=
 xX a ES
theorem N2 (h:Ky P t=some e):∃a k,P.underlying t=some (.map a e)/\P.underlying a=some (.int k):=by
 grind[Ky]
def aMv (ρ:jB):Option (Nat×Value)->Option (Nat×Value)->Prop
 |none,y=>y=none
 |some (i,v),y=>∃a,aZ ρ v a/\y=some (i,a)
theorem J3 {kk k:IntKind} {n:Int}:∀(es:List (Value×Value×Nat)) (c:List MapEntry) (i:Nat) (r:Option (Nat×Value)),pP ρ es c->Ax k n es i=some r->
  ∃d,Instr.findNow (.int kk) (.int k n) c i=some d/\aMv ρ r d
 |[],c,i,r,e,a=>by
  subst e;simp[Ax,Option.some.injEq] at a;subst a;exact⟨none,rfl,rfl⟩
 |(f,v,b)::es,c,i,r,e,a=>by
  obtain⟨u,p,t,g,l,o,rfl⟩:=e;cases f with
  |int j m=>
   simp[aZ] at g;simp only[Ax] at a;split at a;rename_i q;split at a;simp[Option.some.injEq] at a;subst a;refine⟨_,?_,p,l,rfl⟩;grind[Instr.findNow,Instr.sameNow];rename_i s;have⟨d,hr,hrel⟩:=J3 (kk:=kk) es t _ r o a;refine⟨d,?_,hrel⟩;grind[Instr.findNow,Instr.sameNow];cases a
  |_=>simp[Ax] at a
def rS {c:TypeId} (f:P.underlying c=some (.int kk)) {a:List MapEntry} {r:Option (Nat×Value)} (d:pP ρ es a) (e:Ax k n es 0=some r):
  ∃b,(Instr.findKey c (.int k n) a).run P w= .ok b w/\aMv ρ r b:=by
 have⟨b,hr,hrel⟩:=J3 (kk:=kk) es a 0 r d e
 refine⟨b,?_,hrel⟩
 simp[Instr.findKey,cr,bb f,aW,hr,hM]
theorem nF {a:TypeId} (b:P.underlying a=some (.int kk)) (e:Bool):(Instr.checkKey e 10000 a<|.int k n).run P w= .ok () w:=by
 rw[Instr.checkKey,cr,bb b];rfl
theorem aB1 {z:Value} (a:gh P t=some z):(zeroValue t).run P w= .ok z w/\aZ ρ z z:=by
 rw[gh] at a;cases hi:P.info? t with
 |none=>grind
 |some i=>
  cases hz0:i.zero with
  |none=>grind
  |some z0=>
   simp only[hi,hz0,AT] at a;split at a;simp_all[zeroValue,typeInfo,fU];cases a
theorem vt (k:pK P B ρ h w) {x e:Value} (f:aZ ρ x e) (d:pj h x=some es):
  ∃a,pP ρ es a/\((e= .map none/\a=[])\/∃r c,e= .map (some r)/\w.heap[r]?=some (.map ⟨a⟩ c)):=by
 unfold pj at d
 split at d
 .cases d;simp[aZ] at f;exact⟨[],rfl,ES⟩
 .split at d
  .rename_i g c j;cases d;obtain⟨b,s,i,rfl⟩:=f;obtain⟨n,l,a,m,rfl⟩:=k.oP _ _ j b s i;grind
  .cases d
 .cases d
theorem km (o:pK P B ρ h w) {x m ix f:Value} {ok:Bool} (A:aZ ρ x m) (g:aZ ρ ix f) (a:zD P h t x ix ok=some v):
  ∃l,(Instr.lookup t m f ok).run P w= .ok l w/\aZ ρ v l:=by
 unfold zD at a
 split at a
 .rename_i e D k n q s;have⟨key,kk,ht,hkt⟩:=N2 q;have⟨es',he,hx'⟩:=vt o A s;subst g;have vC:∀(r:Option (Nat×Value)) (b:Option _),(Instr.findKey key (.int k n) es').run P w= .ok b w->
    (Instr.lookup t m (.int k n) ok).run P w=(match b with
     |some (_,v)=>(.ok (if ok then .tuple #[v,.bool true] else v) w:Result Value)
     |none=>((zeroValue e).run P w).andThen fun z w=> .ok (if ok then .tuple #[z,.bool false] else z) w):=by
   intro r b d
   rcases hx' with⟨rfl,rfl⟩|⟨r,c,rfl,u⟩
   .simp only[Instr.lookup,cr,bb ht,aW,nF hkt,d,hM];cases b with
    |some p=>rfl
    |none=>simp_all
   .simp only[Instr.lookup,cr,bb ht,aW,uD u,nF hkt,d,hM];cases b with
    |some p=>rfl
    |none=>simp_all
  split at a
  .rename_i i v0 d;obtain⟨b,j,l,y,rfl⟩:=rS (w:=w) hkt he d;refine⟨_,vC none _ j,?_⟩;grind[aZ,qN,bH.cons,bH.nil]
  .rename_i d;simp[aV] at a;obtain⟨z,C,a⟩:=a;have⟨b,j,hr'⟩:=rS (w:=w) hkt he d;subst hr';have⟨hzr,hzz⟩:=aB1 (w:=w) (ρ:=ρ) C;refine⟨_,by rw[vC none _ j,hzr];rfl,?_⟩;grind[aZ,qN,bH.cons,bH.nil]
  .cases a
 .cases a
theorem pP.length:∀{es:List (Value×Value×Nat)} {a:List MapEntry},pP ρ es a->es.length=a.length
 |[],_,c=>by grind[pP]
 |(_,_,_)::es,_,⟨_,_,t,_,_,b,rfl⟩=>by simp[pP.length b]
theorem pP.aI3:∀{es:List (Value×Value×Nat)} {a:List MapEntry} {k k' v b:Value} {c:Nat},pP ρ es a->aZ ρ k k'->aZ ρ v b->
  pP ρ (es++[(k,v,c)]) (a++[{key:=k',val:=b,born:=c}])
 |[],_,k,k',v,b,c,l,d,e=>by grind[pP]
 |(_,_,_)::es,_,k,k',v,b,c,⟨j,v1,t,f,g,i,rfl⟩,d,e=>⟨j,v1,_,f,g,pP.aI3 i d e,rfl⟩
theorem pP.tA:∀{es:List (Value×Value×Nat)} {a:List MapEntry} (i:Nat),pP ρ es a->pP ρ (es.eraseIdx i) (a.eraseIdx i)
 |[],_,i,f=>by grind[pP]
 |(_,_,_)::es,_,0,⟨_,_,t,c,d,b,rfl⟩=>b
 |(_,_,_)::es,_,i+1,⟨e,v1,t,c,d,b,rfl⟩=>⟨e,v1,_,c,d,pP.tA i b,rfl⟩
theorem pP.mod:∀{es:List (Value×Value×Nat)} {b:List MapEntry} (i:Nat) {k k' v a:Value},pP ρ es b->aZ ρ k k'->aZ ρ v a->
  pP ρ (es.modify i fun e=>(k,v,e.2.2)) (b.modify i fun e=>{e with key:=k',val:=a})
 |[],_,i,k,k',v,a,m,_,_=>by grind[pP]
 |(_,_,_)::es,_,0,k,k',v,a,⟨_,_,t,g,j,c,rfl⟩,d,f=>⟨k',a,t,d,f,c,rfl⟩
 |(_,_,_)::es,_,i+1,k,k',v,a,⟨l,v1,t,g,j,c,rfl⟩,d,f=>⟨l,v1,_,g,j,pP.mod i c d f,rfl⟩
theorem Ml {kk k:IntKind} {n:Int}:∀(a:List MapEntry) (i:Nat) {j:Nat} {v:Value},Instr.findNow (.int kk) (.int k n) a i=some (some (j,v))->i<=j/\∃e,a[j - i]?=some e/\e.key= .int k n
 |[],i,j,v,h=>by grind[Instr.findNow]
 |e::b,i,j,v,h=>by
  simp[Instr.findNow] at h;split at h;obtain⟨rfl,rfl⟩:=h;refine⟨ba _,e,EV,?_⟩;cases hk:e.key with
  |int j m=>
   grind[Instr.sameNow]
  |_=>grind[Instr.sameNow]
  have⟨h1,e',h2,h3⟩:=Ml b _ h;grind;cases h
variable {ty:TypeId}
theorem od (j:pK P B ρ h w) {a:Array TypeId} {k:TypeId} {x d:Value} (g:a[0]?=some t) (i:P.underlying t=some (.map k e)) (n:aZ ρ x d) (l:pj h x=some es):
  (Builtin.len_ a ty #[d]).run P w= .ok (goInt es.length) w:=by
 obtain⟨f,b,⟨rfl,rfl⟩|⟨r,c,rfl,m⟩⟩:=vt j n l
 .have:=b.length;simp_all[Builtin.len_,bb]
 .simp[Builtin.len_,g,bb i,uD m,b.length]
theorem ma (z:pK P B ρ h w) {m G k k' x u:Value} {E:AH} (K:aZ ρ m G) (J:aZ ρ k k') (F:aZ ρ x u) (d:Fh P h t m k x=some E):
  ∃H,(Instr.mapUpdate t G k' u).run P w= .ok () H/\mU P B ρ h w ρ E H:=by
 unfold Fh at d
 split at d
 .rename_i e r j n p;have⟨key,kk,ht,hkt⟩:=N2 p;split at d
  .cases d
  .split at d
   .rename_i I a y;simp[aV] at d;obtain⟨o,f,rfl⟩:=d;subst J;obtain⟨b,s,v,rfl⟩:=K;obtain⟨M,g,c,l,rfl⟩:=z.oP _ _ y b s v;rw[aKa] at f;split at f
    .rename_i i v0 q;simp[Option.some.injEq] at f;subst f;obtain⟨L,A,O,_,rfl⟩:=rS (w:=w) hkt l q;obtain⟨N,C,v2,_,rfl⟩:=J3 (kk:=kk) I c 0 _ l q;have⟨_,e',he',hek⟩:=Ml c 0 C;have D:(Instr.keyThatStays (.int j n)<|.int j n).run P w= .ok (.int j n) w:=by
      simp[Instr.keyThatStays,Instr.sameBits]
     refine⟨{w with heap:=w.heap.setIfInBounds b (.map ((⟨c⟩:Array MapEntry).modify i fun e=>{e with key:= .int j n,val:=u}) a)},?_,?_⟩
     .simp only[Instr.mapUpdate,cr,bb ht,aW,uD g,nF hkt,A];grind[Result.andThen_ok,Cc]
     .refine B2 z ER y v (⟨_,pP.mod i l (k':= .int j n) EZ F,?_⟩) rfl rfl rfl rfl;grind
    .rename_i q;simp[Option.some.injEq] at f;subst f;have⟨L,A,hr'⟩:=rS (w:=w) hkt l q;subst hr';refine⟨{w with heap:=w.heap.setIfInBounds b (.map ((⟨c⟩:Array MapEntry).push {key:= .int j n,val:=u,born:=a})<|a+1)},?_,?_⟩
     .simp only[Instr.mapUpdate,cr,bb ht,aW,uD g,nF hkt,A,Cc g]
     .refine B2 z ER y v (⟨_,pP.aI3 l (k':= .int j n) EZ F,?_⟩) rfl rfl rfl rfl;simp
    .cases f
   .cases d
 .cases d
theorem nv (o:pK P B ρ h w) {a:Array TypeId} {m C k k':Value} {y:AH} (x:a[0]?=some t) (A:aZ ρ m C) (z:aZ ρ k k') (c:Jo P h t m k=some y):
  ∃D,(Builtin.delete_ a ty ⟨[C,k']⟩).run P w= .ok (.tuple #[]) D/\mU P B ρ h w ρ y D:=by
 unfold Jo at c
 split at c
 .rename_i e E n f;have⟨key,kk,ht,hkt⟩:=N2 f;cases c;simp[aZ] at A z;exact⟨w,by simp_all[Builtin.delete_,bb,nF],mU.refl o⟩
 .rename_i e r E n f;have⟨key,kk,ht,hkt⟩:=N2 f;split at c
  .cases c
  .split at c
   .rename_i G d u;subst z;obtain⟨b,s,p,rfl⟩:=A;obtain⟨H,g,j,l,rfl⟩:=o.oP _ _ u b s p;split at c
    .rename_i i v0 q;simp[Option.some.injEq] at c;subst c;obtain⟨F,v,I,_,rfl⟩:=rS (w:=w) hkt l q;refine⟨{w with heap:=w.heap.setIfInBounds b (.map ((⟨j⟩:Array MapEntry).eraseIdxIfInBounds i) d)},?_,?_⟩
     .simp[Builtin.delete_,x,bb ht,nF hkt,uD g,v,Cc g]
     .refine B2 o ER u p (⟨_,pP.tA i l,?_⟩) rfl rfl rfl rfl;grind
    .rename_i q;simp[Option.some.injEq] at c;subst c;have⟨F,v,hr'⟩:=rS (w:=w) hkt l q;subst hr';refine⟨{w with heap:=w.heap.setIfInBounds b (.map ⟨j⟩ d)},?_,?_⟩
     .simp[Builtin.delete_,x,bb ht,nF hkt,uD g,v,Cc g]
     .exact B2 o ER u p ⟨_,l,rfl⟩ rfl rfl rfl rfl
    .cases c
   .cases c
 .cases c
theorem qN.map {α:Type} {f g:α->Value} (b:∀x,aZ ρ (f x)<|g x) (a:Array α):qN ρ (a.map f) (a.map g):=by
 grind[lH,Array.toList_map,bH.Kg]
set_option maxHeartbeats 1000000 in
theorem Mg (S:pK P B ρ h w) {N C:Operand->Value} (l:∀x,aZ ρ (N x)<|C x) (o:Oper) {v:Value} (g:dA P N h o.op=some v):
  ∃F,(execOp C o).run P w= .ok (.value F) w/\aZ ρ v F:=by
 obtain⟨dst,op,ty,pos,after,guard⟩:=o
 simp only at g
 cases op with
 |move x=>simp[dA,Option.some.injEq] at g;subst g;exact⟨_,rfl,l x⟩
 |assign x=>simp[dA,Option.some.injEq] at g;subst g;exact⟨_,rfl,l x⟩
 |pick c a b=>
  simp[dA] at g
  split at g
  .rename_i t r;have m:=l c;rw[r] at m;simp[aZ] at m;refine⟨if t then C a else C b,?_,ES⟩;simp[execOp,m,asBool]
  .cases g
 |build t K=>
  obtain⟨F,I,q⟩:=db (w:=w) (parts':=K.map fun p=>(p.1,C p.2)) (by
   simp only[BX];exact bx.map (f:=fun p:Nat×Operand=>N p.2) (fun p=>l p.2) _) g
  refine⟨F,?_,q⟩
  show(do pure (Next.value<|<-Instr.build t _):Sem Next).run P w=_
  simp_all
 |load t a=>
  simp[dA] at g
  split at g
  .rename_i a0 J;have m:=l a;rw[J] at m;have⟨F,I,q⟩:=Qk S m g;simp_all[execOp]
  .cases g
 |nilCheck x=>
  simp[dA] at g
  split at g
  .rename_i a J;have m:=l x;rw[J] at m;have z:=m;obtain⟨b,s,O,H⟩:=m;simp_all[execOp]
  .rename_i f a b J;have m:=l x;rw[J] at m;have z:=m;obtain⟨_,_,_,rfl,_,_,H⟩:=m;simp_all[execOp]
  .rename_i f a b J;have m:=l x;rw[J] at m;have z:=m;obtain⟨_,_,_,⟨_,_,_,rfl⟩,_,_,H⟩:=m;simp_all[execOp]
  .cases g
 |binOp op t x y yt=>
  have⟨F,I,q⟩:=aAj (w:=w) (l x) (l y) g
  refine⟨F,?_,q⟩
  show(do pure (Next.value<|<-(do eqGuard op t x y _ _;binOp op t _ _)):Sem Next).run P w=_
  rw[cr,I]
  rfl
 |unOp op t x=>
  simp only[dA] at g
  split at g
  .rename_i k n A;have m:=l x;rw[A] at m;simp[aZ] at m;simp only[Option.some.injEq] at g;subst g;exact⟨.int k<|k.wrap<|0 - n,by simp[execOp,m,Op.unary,Op.intArith],EZ⟩
  .rename_i b A;have m:=l x;rw[A] at m;simp[aZ] at m;simp[Option.some.injEq] at g;subst g;exact⟨.bool !b,by simp[execOp,m,Op.unary],EZ⟩
  .cases g
 |convert s d x=>
  simp only[dA] at g
  split at g
  .rename_i ds k _ n Z E A;have m:=l x;rw[A] at m;simp only[aZ] at m;simp only[Option.some.injEq] at g;subst g;exact⟨.int k<|k.wrap n,by simp[execOp,m,convert,bb Z,bb E,Conv.intToInt],FU⟩
  .cases g
 |makeInterface t x=>
  simp[dA] at g
  split at g
  .cases g
  .rename_i d E U;simp[Option.some.injEq] at g;subst g;refine⟨_,?_,by simp only[aZ];exact⟨_,l x,rfl⟩⟩;have:P.concrete t=true:=by
    rw[Program.concrete];rw[U];cases d<;>grind
   simp_all[execOp,run_makeInterface]
  .cases g
 |makeFunc fn first G=>
  simp[dA] at g
  split at g
  .rename_i f;refine⟨.func (.func f) (first.map C)<|G.map C,by simp[execOp,Instr.makeFunc],?_⟩;grind[aZ,Mx,qN.map]
  .cases g
 |slice t x lo T mx=>
  have⟨F,I,q⟩:=Zq S (l x) (Kf.map l lo) (Kf.map l T) (Kf.map l mx) g
  simp_all[execOp]
 |fieldAddr s x f=>
  simp[dA] at g
  split at g
  .rename_i Y a E A;have m:=l x;rw[A] at m;obtain⟨b,sp,O,H⟩:=m;split at g
   .rename_i fd R;split at g
    .cases g
    .rename_i V;have⟨i,hinf,_⟩:=Sr V;refine⟨.pointer<|some<|Addr.add ⟨b,a.off+sp.2,a.spot⟩ fd.offset,?_,?_⟩
     .simp[execOp,H,Instr.fieldAt,bb E,R,Instr.sureAddr,fieldPlace,iQ hinf,V]
     grind[aZ,Addr.add]
   .cases g
  .cases g
 |field t x f=>
  simp[dA] at g
  split at g
  .rename_i Y X E A;have m:=l x;rw[A] at m;obtain⟨M,r,H⟩:=m;split at g
   .rename_i fd R;have⟨F,I,q⟩:=Ap (w:=w) g<|lH.1 r;exact⟨F,by simp[execOp,H,Instr.field,bb E,R,asAgg,I],q⟩
   .cases g
  .cases g
 |indexAddr t x i=>
  simp[dA] at g
  split at g
  .rename_i n e a k j E A D;have m:=l x;have z:=l i;rw[A] at m;rw[D] at z;simp only[aZ] at m z;obtain⟨b,sp,O,H⟩:=m;split at g
   .rename_i r;have⟨inf,hinf⟩:=cO.1 r.2.2;refine⟨.pointer<|some<|Addr.add ⟨b,a.off+sp.2,a.spot⟩<|j.toNat*P.cellsOf e,?_,?_⟩
    .simp[execOp,H,z,Instr.indexAt,asIntOf,bb E,Instr.sureAddr,r.1,r.2.1,iQ hinf]
    grind[aZ,Addr.add]
   .cases g
  .rename_i e a n c k j E A D;have m:=l x;have z:=l i;rw[A] at m;rw[D] at z;split at g
   .rename_i r;obtain⟨ab,W,L⟩:=a;obtain rfl:L=none:=r.2.2.2;simp only[aZ] at m z;obtain⟨b,sp,c',O,_,_,H⟩:=m;have⟨inf,hinf⟩:=cO.1 r.2.2.1;refine⟨.pointer<|some<|Addr.add ⟨b,W+sp.2,none⟩<|j.toNat*P.cellsOf e,?_,?_⟩
    .simp[execOp,H,z,Instr.indexAt,asIntOf,bb E,r.1,r.2.1,iQ hinf]
    grind[dZ,aZ]
   .cases g
  .cases g
 |index t x i=>
  simp[dA] at g
  split at g
  .rename_i n e X k j E A D;have m:=l x;have z:=l i;rw[A] at m;rw[D] at z;simp[aZ] at m z;obtain⟨M,Q,H⟩:=m;split at g
   .rename_i r;have⟨inf,hinf⟩:=cO.1 r.2.2;have⟨F,I,q⟩:=Ap (w:=w) g<|lH.1 Q;exact⟨F,by simp[execOp,H,z,Instr.index,asIntOf,bb E,r.1,r.2.1,iQ hinf,I],q⟩
   .cases g
  .rename_i s k j E A D;have m:=l x;have z:=l i;rw[A] at m;rw[D] at z;simp only[aZ] at m z;split at g
   .rename_i r;simp only[aV] at g;obtain⟨u,hu,rfl⟩:=g;exact⟨.int .u8 u.toNat,by simp[execOp,m,z,Instr.index,asIntOf,bb E,r,hu],FU⟩
   .cases g
  .cases g
 |extract t i=>
  simp only[dA] at g
  split at g
  .rename_i vs ht;have m:=l t;rw[ht] at m;obtain⟨α,r,H⟩:=m;have⟨F,hv',q⟩:=(lH.1 r).get g;simp_all[AF,execOp,Instr.extract]
  .cases g
 |lookup t x ix ok=>
  have⟨F,I,q⟩:=km S (l x) (l ix) g
  simp_all[execOp]
 |_=>simp_all[dA]
theorem G5 (f:Nat->Value):(Array.range 0).map f= #[]:=ES
theorem A7 {size:Nat} (a:z.length=size) (n:Nat):((Array.range<|n*size).map fun i=>(⟨z⟩:EP)[i % (⟨z⟩:EP).size]!)=⟨gB z n⟩:=by
 apply Array.ext';simp only[BX,Array.toList_range];subst a;induction n with
 |zero=>simp[gB]
 |succ n b=>
  rw[ux,List.range_add,k8,b];unfold gB;rw[List.replicate_succ',List.flatten_append];congr 1;apply List.ext_getElem;simp;intro j c d;simp only[List.getElem_map,DH,Function.comp];grind[Nat.mul_comm,Nat.mul_add_mod,Nat.mod_eq_of_lt]
theorem Ba (a:bH ρ z z) (n:Nat):bH ρ (gB z n) (gB z n):=by
 induction n with
 |zero=>exact bH.nil
 |succ n b=>exact a.append b
theorem Mb {O d:Operand->Value} (j:∀x,aZ ρ (O x)<|d x) (o:Oper) {b:oU} (a:iT P O o.op=some (b,f)):
  ∃(o':Obj) (g:Nat->Value),wP P ρ (0,0) b o'/\(execOp d o).run P w= .ok (.value<|g w.heap.size) (w.alloc o')/\∀(ρ':jB) i s,s.2=0->ρ' i=some (w.heap.size,s)->aZ ρ' (f i) (g w.heap.size):=by
 obtain⟨dst,op,ty,pos,after,guard⟩:=o
 simp only at a
 cases op with
 |alloc e=>
  simp only[iT,aV] at a
  obtain⟨z,E,a⟩:=a
  cases a
  have⟨i,zv,hi,_,hzr,hzc,hzl,hzz⟩:=uS (w:=w) E
  refine⟨_,fun n=> .pointer (some ⟨n,0,none⟩),⟨zv.cells,rfl,?_,?_,fun _=>⟨rfl,rfl,ES⟩⟩,?_,?_⟩
  .grind
  .grind
  .simp[execOp,Instr.alloc,hzr,newVar,newRow]
  grind[aZ]
 |box e x=>
  simp only[iT,aV] at a
  obtain⟨l,m,a⟩:=a
  cases a
  rw[kD] at m
  split at m
  .cases m
  .cases m;have y:=(j x).cells ES;have Q:=y.length;refine⟨.cells (d x).cells e,fun n=> .pointer (some ⟨n,0,none⟩),⟨_,rfl,?_,?_,ES⟩,?_,?_⟩
   .grind
   .grind
   .simp[execOp,Instr.box,newVar,newRow]
   grind[aZ]
 |buildSlice t len v=>
  simp only[iT] at a
  split at a
  .rename_i e A;split at a
   .rename_i z E;have⟨i,zv,hi,_,hzr,hzc,hzl,hzz⟩:=uS (w:=w) E;split at a
    .simp only[aV] at a;obtain⟨l,m,a⟩:=a;cases a;have⟨r',hr',hrel⟩:=Hx _ (v.map fun p=>(p.1,d p.2)).toList _ _ l (by
      simp_all[bx.map,Nat,Operand]) (Ba (hzz ρ) len) m
     have S:=hrel.length
     have N:zv.cells=⟨z⟩:=GN
     refine⟨_,fun n=> .slice (some ⟨n,0,none⟩) len len,⟨_,rfl,?_,?_,fun _=>⟨rfl,rfl,by show r'.length=l.length;omega⟩⟩,?_,?_⟩
     .grind
     .grind
     .have C:¬len*P.cellsOf e>2^24:=ER
      show(do pure (Next.value<|<-Instr.buildSlice t len _):Sem Next).run P w=_
      simp only[Instr.buildSlice,cr,bb A,aW,iQ hi,C,c9]
      have y:=A7 hzl len
      by_cases G:len*P.cellsOf e=0
      .have D:(⟨gB z len⟩:EP)= #[]:=by rw[<-y,G,G5]
       rw[D] at hr'
       simp only[G,e9,cr,hM,aW]
       rw[G5,hr']
       simp[newRow]
      .simp_all[newRow]
     .intro ρ' i s K J;exact⟨_,_,_,J,ba _,ER,by rw[K]⟩
    .cases a
   .cases a
  .cases a
 |makeSlice t l c=>
  simp only[iT] at a
  split at a
  .rename_i e W F X cc A m y;split at a
   .rename_i z E;have⟨i,zv,hi,_,hzr,hzc,hzl,hzz⟩:=uS (w:=w) E;split at a
    .obtain⟨rfl,rfl⟩:=a;have u:=j l;have q:=j c;rw[m] at u;rw[y] at q;simp[aZ] at u q;have N:zv.cells=⟨z⟩:=GN
     have V:i.bytes=P.bytesOf e:=by simp[Program.bytesOf,hi]
     refine⟨.cells ⟨gB z cc.toNat⟩ e,fun n=> .slice (some ⟨n,0,none⟩) F.toNat cc.toNat,⟨_,rfl,?_,?_,ES⟩,?_,?_⟩
     .simp_all[e8,ba,Ba]
     .grind
     .have M:IntKind.i64.wrap F=F:=DI _ ER;have L:IntKind.i64.wrap cc=cc:=DI _ ER;have t1:(typeInfo e).run P w= .ok i w:=by simp[typeInfo,hi]
      have I:((decide (cc<0)||decide ((i.bytes:Int)*cc>2^48))||decide (F<0)||decide (F>cc))=false:=by
       grind
      simp only[execOp,u,q,Instr.makeSlice,cr,bb A,aW,asInt,asIntOf,hM,t1,M,L,I,aO,c9,run_askRoom,iQ hi]
      have R:=A7 hzl cc.toNat
      by_cases G:cc.toNat*P.cellsOf e=0
      .simp_all[G5,newRow]
      .simp_all[newRow]
     .intro ρ' i s K J;exact⟨_,_,_,J,ba _,ER,by rw[K]⟩
    .cases a
   .cases a
  .cases a
 |makeMap t r=>
  cases r with
  |none=>
   obtain⟨rfl,rfl⟩:=a
   refine⟨_,fun n=> .map _,⟨[],rfl,rfl⟩,rfl,?_⟩
   grind[aZ]
  |some x=>
   simp[iT] at a
   split at a
   .rename_i U elem k n A T;obtain⟨rfl,rfl⟩:=a;have H:=j x;rw[T] at H;simp[aZ] at H;refine⟨_,fun n=> .map (some n),⟨[],rfl,rfl⟩,by simp[execOp,Instr.makeMap,H,bb A,asInt,asIntOf],?_⟩;grind[aZ]
   .cases a
 |_=>grind[iT]
end Go.Ab
