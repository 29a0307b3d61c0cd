/- A part of the proof. -/
import Derived.WalkKit
import Derived.AtR
import Derived.ChangeKeysEq
set_option linter.all false
namespace Go
theorem FQ{p:Prop}(h:p:=by omega):p:=h
theorem FR{p:Prop}(h:p:=by grind):p:=h
theorem FU{p:Prop}(h:p:=by kernel_rfl):p:=h
theorem FV{p:Prop}(h:p:=by decide):p:=h
theorem FW{p:Prop}(h:p:=by simp):p:=h
theorem FX{p:Prop}(h:p:=by simp;omega):p:=h
theorem FY{p:Prop}(h:p:=by simp[gD,qI,aQ.core,C.pA,C.sH,H.mH,oC,bQ.enc]):p:=h
theorem FZ{p:Prop}(h:p:=by cases h):p:=h
theorem GA{p:Prop}(h:p:=by have:=hC.1;omega):p:=h
theorem GB{p:Prop}(h:p:=by grind[bB]):p:=h
theorem GC{p:Prop}(h:p:=by simp[bB]):p:=h
theorem GD{p:Prop}(h:p:=by show s.at'+1<=_;omega):p:=h
theorem GF{p:Prop}(h:p:=by show some (Value.int .i64<|wr _)=_;rw[aAb h]):p:=h
theorem GG{p:Prop}(h:p:=by dsimp only;omega):p:=h
theorem GH{p:Prop}(h:p:=by simp[jJ] at h):p:=h
theorem GI{p:Prop}(h:p:=by simp only[sM];rw[aac];simp):p:=h
theorem GJ{p:Prop}(h:p:=by unfold KK;omega):p:=h
theorem GK{p:Prop}(h:p:=by simp[Builtin.firstCells,loadCells,loadCellsFrom]):p:=h
theorem GL{p:Prop}(h:p:=by grind[bQ.kJ]):p:=h
theorem GM{p:Prop}(h:p:=by cases e;exact k):p:=h
theorem GN{p:Prop}(h:p:=by simp only[bB]):p:=h
theorem GO{p:Prop}(h:p:=by simp only[c9,eqGuard_at_string,kd,bj];simp only[binOp,Op.stringOp];rfl):p:=h
theorem GP{p:Prop}(h:p:=by have:=st.nx;omega):p:=h
theorem GQ{p:Prop}(h:p:=by simp[vR,nV,c]):p:=h
theorem GR{p:Prop}(h:p:=by simpa using a):p:=h
theorem GS{p:Prop}(h:p:=by simp[eJ.R4] at h):p:=h
theorem GU{p:Prop}(h:p:=by show min (4*C.aB.toNat) _=4*C.aB.toNat;omega):p:=h
theorem GV{p:Prop}(h:p:=by simp_all[Pm,tS]):p:=h
theorem GW{p:Prop}(h:p:=by simp[Rows.topSizesRow]):p:=h
theorem GX{p:Prop}(h:p:=by cases b<;>simp_all [wM]):p:=h
theorem GY{p:Prop}(h:p:=by simp_all[Je]):p:=h
theorem GZ{p:Prop}(h:p:=by rw[e];rfl):p:=h
theorem HA{p:Prop}(h:p:=by rw[PK];omega):p:=h
theorem HB{p:Prop}(h:p:=by simp_all):p:=h
theorem HC{p:Prop}(h:p:=by have:=r.length_le;simp at this;omega):p:=h
theorem HD{p:Prop}(h:p:=by show -9223372036854775808<=s.at'+1/\s.at'+1<=_;omega):p:=h
theorem HE{p:Prop}(h:p:=by unfold bT.kI;rw[show(r.qJ n).dQ=r.dQ from rfl,e];rfl):p:=h
theorem HF{p:Prop}(h:p:=by unfold bQ.kJ;omega):p:=h
theorem HG{p:Prop}(h:p:=by cases(M.aT c).dM<;>decide):p:=h
theorem HI{p:Prop}(h:p:=by grind[List.length_filter_le,List.range,Mon.fO]):p:=h
theorem HJ{p:Prop}(h:p:=by unfold bT.yV;rw[bD1];show ¬r.kS=true;rw[u];simp):p:=h
theorem HK{p:Prop}(h:p:=by unfold dS at ha;simpa using ha):p:=h
theorem HL{p:Prop}(h:p:=by show(7:Int)≠9/\(7:Int)≠1/\(7:Int)≠2;decide):p:=h
theorem HM{p:Prop}(h:p:=by rw[dF];omega):p:=h
theorem HN{p:Prop}(h:p:=by simpa using b):p:=h
theorem HO{p:Prop}(h:p:=by rwa [aL]):p:=h
theorem HQ{p:Prop}(h:p:=by rw[<-hzc]):p:=h
theorem HR{p:Prop}(h:p:=by rfl):p:=h
theorem HS{p:Prop}(h:p:=by rw[<-q];rfl):p:=h
theorem HT{p:Prop}(h:p:=by unfold gD;rw[rk]):p:=h
theorem HU{p:Prop}(h:p:=by simp[xE] at h):p:=h
theorem HV{p:Prop}(h:p:=by unfold aG.Cx;rw[aaa]):p:=h
theorem HW{p:Prop}(h:p:=by unfold PK;omega):p:=h
theorem HX{p:Prop}(h:p:=by rw[b];rfl):p:=h
theorem HY{p:Prop}(h:p:=by simpa using d):p:=h
theorem HZ{p:Prop}(h:p:=by have:=hl.2.2;omega):p:=h
theorem IA{p:Prop}(h:p:=by rw[xV];exact bb _):p:=h
theorem IB{p:Prop}(h:p:=by rw[oH];omega):p:=h
theorem IC{p:Prop}(h:p:=by rw[<-hC,bO e]):p:=h
theorem ID{p:Prop}(h:p:=by grind[jS]):p:=h
theorem IE{p:Prop}(h:p:=by unfold Hv;grind):p:=h
theorem IF{p:Prop}(h:p:=by simpa using h):p:=h
theorem IG{p:Prop}(h:p:=by rw[ph2];grind):p:=h
theorem IH{p:Prop}(h:p:=by simpa using e):p:=h
theorem II{p:Prop}(h:p:=by rwa [a.base]):p:=h
theorem IJ{p:Prop}(h:p:=by rw[<-hC,cR]):p:=h
theorem IK{p:Prop}(h:p:=by cases b):p:=h
theorem IL{p:Prop}(h:p:=by grind[fP]):p:=h
theorem IM{p:Prop}(h:p:=by grind[lN]):p:=h
theorem IN{p:Prop}(h:p:=by cases i):p:=h
theorem IP{p:Prop}(h:p:=by simp only[bB];exact⟨_,by simp only[vE];exact hrel,rfl⟩):p:=h
theorem IQ{p:Prop}(h:p:=by rw[f.iD _ FQ] at u;cases u):p:=h
theorem IS{p:Prop}(h:p:=by rw[kJ,cr FQ,r5]):p:=h
end Go
namespace Go
abbrev ay:=@Int.eq_ofNat_of_zero_le
abbrev aL:=@Int.toNat_natCast
abbrev aO:=@Bool.false_eq_true
abbrev aP:=@List.getD_eq_getElem?_getD
abbrev aV:=@List.mem_singleton
abbrev aW:=@List.mem_cons_of_mem
abbrev ba:=@Option.map_eq_some_iff
abbrev bb:=@Nat.le_refl
abbrev bj:=@Go.Result.andThen_ok
abbrev b0:=@List.getElem?_eq_getElem
abbrev ca:=@Go.run_underlying
abbrev cb:=@Decidable.not_not
abbrev cg:=@List.mem_append
abbrev cj:=@decide_eq_true
abbrev cr:=@decide_eq_false
abbrev cL:=@Nat.le_trans
abbrev c7:=@Option.isSome_iff_exists
abbrev c8:=@of_decide_eq_true
abbrev c9:=@Go.Sem.run_bind
abbrev dd:=@List.length_append
abbrev dn:=@Bool.and_eq_true
abbrev dx:=@if_false
abbrev ef:=@Option.isSome_none
abbrev eg:=@List.mem_cons_self
abbrev eh:=@List.append_assoc
abbrev eo:=@List.drop_of_length_le
abbrev ep:=@List.range_succ
abbrev ew:=@List.getElem?_eq_some_iff
abbrev eD:=@if_true
abbrev eV:=@congrArg
abbrev e6:=@List.mem_cons
abbrev fm:=@List.take_of_length_le
abbrev gg:=@List.cons_append
abbrev gk:=@List.mem_map
abbrev hK:=@Classical.byContradiction
abbrev hT:=@List.nil_append
abbrev hX:=@Array.getElem?_eq_some_iff
abbrev hY:=@List.eq_nil_of_length_eq_zero
abbrev js:=@List.length_cons
abbrev kd:=@Go.Sem.run_pure
abbrev kt:=@List.mem_of_getElem?
abbrev kx:=@List.append_nil
abbrev k6:=@List.length_map
abbrev k7:=@List.map_cons
abbrev k9:=@List.getElem?_map
abbrev ll:=@List.drop_zero
abbrev l4:=@List.map_append
abbrev l5:=@Nat.lt_of_lt_of_le
abbrev l7:=@List.drop_eq_getElem_cons
abbrev l9:=@List.countP_cons
abbrev mn:=@Nat.ble_eq_true_of_le
abbrev og:=@Nat.zero_le
abbrev oH:=@List.length_take
abbrev oV:=@Nat.le_of_ble_eq_true
abbrev oX:=@List.flatMap_append
abbrev o0:=@Nat.mul_le_mul_right
abbrev p4:=@List.getElem?_append_right
abbrev ql:=@Nat.eq_of_beq_eq_true
abbrev qv:=@List.getElem?_range
abbrev q5:=@Nat.le_succ
abbrev q6:=@List.length_drop
abbrev ri:=@List.ext_getElem?
abbrev rk:=@List.length_set
abbrev r5:=@Bool.and_false
abbrev sr:=@List.getElem?_eq_none
abbrev ss:=@List.length_filter_le
abbrev sz:=@List.getElem?_cons_zero
abbrev tb:=@List.getElem?_append_left
abbrev ts:=@Option.getD_some
abbrev ux:=@List.all_eq_true
abbrev u3:=@Nat.le_succ_of_le
abbrev u4:=@Nat.lt_or_ge
abbrev v7:=@List.map_congr_left
abbrev xa:=@Option.map_some
abbrev x0:=@List.drop_drop
abbrev y0:=@Bool.false_and
abbrev z1:=@List.take_append_drop
abbrev AA:=@List.length_singleton
abbrev AB:=@Nat.succ_mul
abbrev AD:=@Nat.zero_add
abbrev AE:=@List.getElem_mem
abbrev AF:=@List.take_append_of_le_length
abbrev AG:=@decide_eq_true_eq
abbrev AI:=@List.mem_range
abbrev AJ:=@Option.isNone_none
abbrev AK:=@List.countP_append
abbrev AL:=@List.getElem?_cons_succ
abbrev AN:=@List.flatMap_cons
abbrev AO:=@Nat.le_of_eq
abbrev AP:=@List.take_add_one
abbrev AQ:=@List.countP_pos_iff
abbrev AR:=@List.countP_eq_zero
abbrev AS:=@Option.bind_some
abbrev AT:=@List.filter_append
abbrev AU:=@Bool.true_and
abbrev AV:=@List.getElem?_take_of_lt
abbrev AW:=@Bool.not_eq_true'
abbrev AX:=@List.filter_cons_of_neg
abbrev AY:=@List.length_nil
abbrev AZ:=@Bool.or_eq_true
abbrev BA:=@List.nodup_cons
abbrev BB:=@List.take_succ_cons
abbrev BC:=@List.filter_eq_self
abbrev BD:=@List.drop_eq_nil_of_le
abbrev BE:=@List.flatMap_singleton
abbrev BF:=@List.take_length
abbrev BG:=@Nat.div_eq_of_lt
abbrev BH:=@decide_eq_decide
abbrev BI:=@Nat.mod_lt
abbrev BJ:=@List.getElem?_drop
abbrev BK:=@Nat.eq_zero_or_pos
abbrev BL:=@Option.isNone_some
abbrev BM:=@Array.getElem?_toList
abbrev BN:=@List.mem_filter
abbrev BO:=@Nat.mul_add_div
abbrev BP:=@Nat.add_le_add_right
abbrev BQ:=@Bool.not_true
abbrev BR:=@List.replicate_succ
abbrev BS:=@decide_eq_false_iff_not
abbrev BT:=@Option.bind_eq_some_iff
abbrev BU:=@List.Perm.refl
abbrev BV:=@List.filter_cons_of_pos
abbrev BW:=@List.drop_append_of_le_length
abbrev BX:=@Int.le_refl
abbrev BY:=@Nat.add_zero
abbrev BZ:=@Nat.sub_self
abbrev CA:=@List.pairwise_cons
abbrev CB:=@List.map_map
abbrev CC:=@List.length_eq_one_iff
abbrev CD:=@Nat.lt_of_le_of_lt
abbrev CE:=@List.filter_eq_nil_iff
abbrev CF:=@List.sum_append
abbrev CG:=@List.all_cons
abbrev CH:=@List.getElem?_toArray
abbrev CI:=@Go.DataW.trod_struct
abbrev CJ:=@List.getElem?_set
abbrev CK:=@Nat.add_mul
abbrev CM:=@List.eraseIdx_of_length_le
abbrev CN:=@Nat.lt_succ_self
abbrev CO:=@Array.toList_map
abbrev CP:=@Go.step_lone_go
abbrev CQ:=@Go.GStep.bare_after
abbrev CR:=@Go.ChangeShapes.trodAll_cons
abbrev CS:=@Array.toList_append
abbrev CT:=@Array.getElem?_push
abbrev CU:=@List.drop_succ_cons
abbrev CV:=@Int.toNat_of_nonneg
abbrev CW:=@Nat.add_le_add_left
abbrev CX:=@List.foldl_cons
abbrev CY:=@Int.emod_nonneg
abbrev CZ:=@Int.emod_lt_of_pos
abbrev DA:=@of_decide_eq_false
abbrev DB:=@Array.getElem?_setIfInBounds_self
abbrev DC:=@List.take_succ_eq_append_getElem
abbrev DD:=@List.drop_take
abbrev DE:=@List.flatten_cons
abbrev DF:=@List.nodup_nil
abbrev DG:=@List.foldl_append
abbrev DH:=@List.any_eq_false
abbrev DI:=@List.filter_congr
abbrev DJ:=@List.map_nil
abbrev DK:=@List.take_append
abbrev DL:=@Go.Frame.finish_atR
abbrev DM:=@List.drop_append
abbrev DN:=@List.perm_middle
abbrev DO:=@List.filter_cons
abbrev DP:=@Bool.and_true
abbrev DQ:=@Nat.add_assoc
abbrev DS:=@List.mem_append_left
abbrev DT:=@List.find?_eq_some_iff_append
abbrev DU:=@and_self
abbrev DV:=@List.reverse_reverse
abbrev DW:=@List.mem_of_mem_drop
abbrev DX:=@List.all_append
abbrev DY:=@Array.length_toList
abbrev DZ:=@List.length_pos_iff
abbrev D0:=@Nat.add_comm
abbrev EA:=@Array.toList_setIfInBounds
abbrev EB:=@Option.isSome_some
abbrev EC:=@List.getElem_range
abbrev ED:=@Go.IntWalk.i64_in
abbrev EE:=@Go.Steps.refl
abbrev EF:=@Option.any_eq_true
abbrev EG:=@Nat.pos_of_ne_zero
abbrev EH:=@List.find?_eq_none
abbrev EI:=@Go.Sem.runT_eq
abbrev EJ:=@Nat.lt_succ_of_lt
abbrev EK:=@List.reverse_cons
abbrev EL:=@List.nodup_append
abbrev EM:=@Go.Oper.semAt_eq
abbrev EN:=@List.sum_cons
abbrev EO:=@Nat.lt_irrefl
abbrev EP:=@List.mem_flatMap
abbrev ER:=@Go.DataW.trod_slice
abbrev ES:=@List.any_eq_true
abbrev ET:=@List.flatMap_nil
abbrev EU:=@Nat.le_add_right
abbrev EV:=@Nat.zero_mul
abbrev EW:=@Nat.succ_pos
abbrev EX:=@Nat.min_eq_left
abbrev EY:=@Nat.div_add_mod
abbrev EZ:=@List.filter_nil
abbrev Fe:=@Nat.zero_lt_one
abbrev Fi:=@Bool.not_false
abbrev FA:=@List.take_left
abbrev FB:=@Nat.mul_one
abbrev FD:=@Nat.add_le_add
abbrev FF:=@List.drop_left
abbrev FG:=@Nat.blt_eq
abbrev FI:=@Nat.not_lt
abbrev FJ:=List Value
abbrev JA:=Option FJ
abbrev JF:=List FJ
abbrev FK:=List Int
abbrev FL:=List Nat
abbrev JK:=Option FL
abbrev FM:=Option Addr
abbrev FN:=Option Value
abbrev FO:=Array Value
end Go
open Go
variable {i j:Nat}
namespace Go.Ab
def bD1.{u} {c:Prop} {_:Decidable c} (n:¬c) {α:Sort u} {t e:α}:ite c t e=e:=if_neg n
def aaa.{u} {c:Prop} {_:Decidable c} {α:Sort u} {t e:α}(n:¬c:=by omega):ite c t e=e:=if_neg n
def bD2.{u} {c:Prop} {_:Decidable c} (n:c) {α:Sort u} {t e:α}:ite c t e=t:=if_pos n
def aac.{u} {c:Prop} {_:Decidable c} {α:Sort u} {t e:α}(n:c:=by omega):ite c t e=t:=if_pos n
variable {α:Type}
noncomputable section
def sb:Value:= .chan none
def Fv:Value->Bool
 |.chan _=>true
 |_=>false
def gU:Value->Bool
 |.agg _|.tuple _|.chan _=>false
 |_=>true
mutual
def jJ:Value->Bool
 |.bool _|.int _ _|.string _|.pointer none|.slice none _ _|.map none|.nilFunc|.nilIface=>true
 |.iface _ v=>jJ v
 |.agg a=>G6 a
 |.tuple a=>G6 a
 |_=>false
def G6:FO->Bool
 |⟨l⟩=>tB l
def tB:FJ->Bool
 |[]=>true
 |v::l=>jJ v&&tB l
end
abbrev kX:=Nat->Option (Nat×(Nat×Nat))
def V7 (ρ:kX):Fn->Fn->Prop
 |.yield l,g=>∃b s,ρ l=some (b,s)/\g= .yield b
 |f,g=>g=f
mutual
def bB (ρ:kX):Value->Value->Prop
 |.bool b,d=>d= .bool b
 |.int k n,d=>d= .int k n
 |.float k n,d=>d= .float k n
 |.complex k n m,d=>d= .complex k n m
 |.string s,d=>d= .string s
 |.pointer none,d=>d= .pointer none
 |.pointer (some a),d=>∃b s,ρ a.block=some (b,s)/\d= .pointer (some ⟨b,a.off+s.2,a.spot⟩)
 |.slice none l c,d=>d= .slice none l c
 |.slice (some ⟨i,o,some x⟩) l c,d=>l=0/\c=0/\∃q f,(x=1->f=0)/\(x=2->∃b s,ρ i=some (b,s)/\f<=s.1/\(0<f->q=⟨b,o+s.2,none⟩))/\d= .slice (some q) 0 f
 |.slice (some ⟨i,o,none⟩) l c,d=>∃b s f,ρ i=some (b,s)/\c<=f/\f<=c+s.1/\d= .slice (some ⟨b,o+s.2,none⟩) l f
 |.map none,d=>d= .map none
 |.map (some r),d=>∃b s,ρ r=some (b,s)/\d= .map (some b)
 |.chan none,_=>True
 |.chan (some _),_=>False
 |.func y z g,d=>∃j p e,V7 ρ y j/\vE ρ z p/\vE ρ g e/\d= .func j p e
 |.nilFunc,d=>d= .nilFunc
 |.iface t v,d=>∃u,bB ρ v u/\d= .iface t u
 |.nilIface,d=>d= .nilIface
 |.agg g,d=>∃e,vE ρ g e/\d= .agg e
 |.tuple g,d=>∃e,vE ρ g e/\d= .tuple e
def vE (ρ:kX):FO->FO->Prop
 |⟨l⟩,a=>bP ρ l a.toList
def bP (ρ:kX):FJ->FJ->Prop
 |[],a=>a=[]
 |v::l,a=>∃c b,bB ρ v c/\bP ρ l b/\a=c::b
end
inductive qU where
 |cells (c:FJ) (elem:TypeId) (fz:Nat×Nat) (exact:Bool)
 |loop (st:LoopState) (pending:Option Code) (fn:FuncId) (tmps:FJ) (params:Array Tmp) (assign body:Code) (defers:Nat)
 |wO (aMp:Bool)
 |map (es:List (Value×Value×Nat)) (clock:Nat)
 |mapIter (m:Option Nat) (since:Nat) (seen:FL) (last:Nat)
 |R1 (s:ByteArray) (pos:Nat)
abbrev JC:=Option qU
inductive Tr (α:Type) where
 |lf
 |nd (v:α) (l r:Tr α)
noncomputable def Tr.get {α:Type} (d:α) (t:Tr α):Nat->α:=
 Tr.rec (motive:=fun _=>Nat->α) (fun _=>d) (fun v _ _ gl gr n=>Nat.rec (motive:=fun _=>α) v (fun m _=>Nat.rec (motive:=fun _=>α) (gl<|Nat.div m 2) (fun _ _=>gr<|Nat.div m 2)<|Nat.mod m 2) n) t
noncomputable def Tr.yo {α:Type} (d:α) (f:Nat):Nat->α->Tr α:=
 Nat.rec (motive:=fun _=>Nat->α->Tr α) (fun _ _=> .lf) (fun _ a n o=>Nat.rec (motive:=fun _=>Tr α) (.nd o .lf .lf) (fun m _=>Nat.rec (motive:=fun _=>Tr α) (.nd d (a (Nat.div m 2) o) .lf) (fun _ _=> .nd d .lf (a (Nat.div m 2) o))<|Nat.mod m 2) n) f
noncomputable def Tr.set {α:Type} (d:α) (t:Tr α):Nat->α->Tr α:=
 Tr.rec (motive:=fun _=>Nat->α->Tr α) (fun n o=>Tr.yo d (n+1) n o)
  (fun v l r a b n o=>Nat.rec (motive:=fun _=>Tr α) (.nd o l r) (fun m _=>Nat.rec (motive:=fun _=>Tr α) (.nd v (a (Nat.div m 2) o) r) (fun _ _=> .nd v l (b (Nat.div m 2) o))<|Nat.mod m 2) n) t
def du {β:Type} (n:Nat) (a b:β):Nat.rec (motive:=fun _=>β) a (fun _ _=>b) (Nat.mod n 2)=if n % 2=0 then a else b:=by
 show Nat.rec (motive:=fun _=>β) a _ (n % 2)=_;cases n % 2<;>rfl
def Tr.aj (d:α) (n:Nat):(Tr.lf:Tr α).get d n=d:=rfl
def Tr.Xo (d v:α) (l r:Tr α):(Tr.nd v l r).get d 0=v:=rfl
def Tr.P6 (d v:α) (l r:Tr α) (n:Nat):(Tr.nd v l r).get d (n+1)=if n % 2=0 then l.get d (n/2) else r.get d (n/2):=du _ _ _
def Tr.aSx (d:α) (f:Nat) (o:α):Tr.yo d (f+1) 0 o= .nd o .lf .lf:=rfl
def Tr.aSw (d:α) (f n:Nat) (o:α):Tr.yo d (f+1) (n+1) o=if n % 2=0 then .nd d (Tr.yo d f (n/2) o) .lf else .nd d .lf (Tr.yo d f (n/2) o):=du _ _ _
def Tr.aU8 (d:α) (n:Nat) (o:α):(Tr.lf:Tr α).set d n o=Tr.yo d (n+1) n o:=rfl
def Tr.aWp (d v:α) (l r:Tr α) (o:α):(Tr.nd v l r).set d 0 o= .nd o l r:=rfl
def Tr.aYo (d v:α) (l r:Tr α) (n:Nat) (o:α):(Tr.nd v l r).set d (n+1) o=if n % 2=0 then .nd v (l.set d (n/2) o) r else .nd v l (r.set d (n/2) o):=du _ _ _
theorem Tr.qs {α:Type} (d:α):∀(f n m:Nat) (o:α),n<f->(Tr.yo d f n o).get d m=if m=n then o else d
 |0,n,_,_,h=>FQ
 |f+1,0,m,o,_=>by
  rw[Tr.aSx];cases m with
  |zero=>simp[Tr.Xo]
  |succ m=>simp[Tr.P6,Tr.aj]
 |f+1,n+1,m,o,h=>by
  have b:=fun m=>Tr.qs d f (n/2) m o FQ;rw[Tr.aSw];split;cases m with
  |zero=>simp[Tr.Xo]
  |succ m=>
   rw[Tr.P6];by_cases a:m % 2=0;grind;rw[bD1 a,Tr.aj];grind
  cases m with
  |zero=>simp[Tr.Xo]
  |succ m=>
   rw[Tr.P6];by_cases a:m % 2=0;rw[bD2 a,Tr.aj];grind;grind
theorem Tr.oA {α:Type} (d:α):∀(t:Tr α) (n m:Nat) (o:α),(t.set d n o).get d m=if m=n then o else t.get d m
 |.lf,n,m,o=>by rw[Tr.aj,Tr.aU8];simp_all[Tr.qs,CN]
 |.nd v l r,0,m,o=>by
  rw[Tr.aWp];cases m with
  |zero=>simp[Tr.Xo]
  |succ m=>simp[Tr.P6]
 |.nd v l r,n+1,m,o=>by
  rw[Tr.aYo];split;cases m with
  |zero=>simp[Tr.Xo]
  |succ m=>
   rw[Tr.P6,Tr.P6];by_cases a:m % 2=0;rw[bD2 a,bD2 a,Tr.oA d l];grind;grind
  cases m with
  |zero=>simp[Tr.Xo]
  |succ m=>
   rw[Tr.P6,Tr.P6];by_cases a:m % 2=0;grind;rw[bD1 a,bD1 a,Tr.oA d r];grind
structure AH where
 base:Nat
 next:Nat
 old:Nat->JC
 kT:Tr (JC)
abbrev JI:=Option AH
def AH.get (h:AH) (i:Nat):JC:=AH.rec (motive:=fun _=>JC) (fun a _ b kT=>Bool.rec (motive:=fun _=>JC) (kT.get none<|Nat.sub i a) (b i)<|Nat.blt i a) h
def AH.set (h:AH) (i:Nat) (o:JC):AH:=AH.rec (motive:=fun _=>AH) (fun a next b kT=>Bool.rec (motive:=fun _=>AH) ⟨a,next,b,kT.set none (Nat.sub i a) o⟩ ⟨a,next,b,kT⟩<|Nat.blt i a) h
def AH.alloc (h:AH) (o:qU):AH:=AH.rec (motive:=fun _=>AH) (fun a next b kT=>⟨a,Nat.succ next,b,kT.set none (Nat.sub next a)<|some o⟩) h
theorem AH.Pk (h:AH) (i:Nat):h.get i=if i<h.base then h.old i else h.kT.get none (i - h.base):=by
 obtain⟨a,next,b,kT⟩:=h;simp only[AH.get];cases hb:Nat.blt i a with
 |true=>simp_all
 |false=>rw[bD1<|by grind[Nat.blt_eq]];rfl
theorem AH.wi (h:AH) (i:Nat) (o:JC):h.set i o=if i<h.base then h else {h with kT:=h.kT.set none (i - h.base) o}:=by
 obtain⟨a,next,b,kT⟩:=h;simp only[AH.set];cases hb:Nat.blt i a with
 |true=>simp_all
 |false=>rw[bD1<|by grind[Nat.blt_eq]];rfl
def AH.alloc_eq (h:AH) (o:qU):h.alloc o={h with kT:=h.kT.set none (h.next - h.base)<|some o,next:=h.next+1}:=rfl
theorem AH.oA {h:AH} {o:JC} (b:h.base<=i):(h.set i o).get j=if j=i then o else h.get j:=by
 rw[AH.wi,aaa,AH.Pk,AH.Pk];by_cases a:j<h.base;grind;simp[a,dx,Tr.oA];grind
@[simp] theorem AH.rb {h:AH} {i:Nat} {o:JC}:(h.set i o).base=h.base:=by rw[AH.wi];split<;>rfl
@[simp] theorem AH.aIw {h:AH} {i:Nat} {o:JC}:(h.set i o).next=h.next:=by rw[AH.wi];split<;>rfl
@[simp] theorem AH.aUq {h:AH} {o:qU}:(h.alloc o).base=h.base:=rfl
@[simp] theorem AH.aV4 {h:AH} {o:qU}:(h.alloc o).next=h.next+1:=rfl
theorem AH.wQ {h:AH} {o:qU} (hb:h.base<=h.next):(h.alloc o).get j=if j=h.next then some o else h.get j:=by
 rw[AH.alloc_eq,AH.Pk,AH.Pk];by_cases a:j<h.base;grind;simp[a,dx,Tr.oA];grind
def eB (c:FJ) (a:Nat) (xs:FJ):FJ:=c.take a++xs++c.drop (a+xs.length)
def nV (P:Program) (t:TypeId):Option Bool:=
 (P.underlying t).map fun|.struct _|.array _ _=>true|_=>false
def rP (P:Program) (t:TypeId):JA:=
 ((P.info? t).bind (·.zero)).bind fun z=>
  if jJ z&&z.cells.toList.all gU&&z.cells.size==P.cellsOf t then some z.cells.toList else none
def bytesOf (P:Program) (t:TypeId):Nat:=P.bytesOf t
def eN (h:AH) (a:Addr) (n:Nat):JA:=
 if a.spot.isSome then none else
 match h.get a.block with
 |some (.cells c _ _ _)=>if a.off+n<=c.length then some ((c.drop a.off).take n) else none
 |_=>none
def C9 (P:Program) (h:AH) (t:TypeId) (a:Addr):FN:=
 match nV P t with
 |some true=>(eN h a<|P.cellsOf t).map fun l=> .agg ⟨l⟩
 |some false=>
  if a.spot.isSome then none else
  match h.get a.block with
  |some (.cells c _ _ _)=>c[a.off]?
  |_=>none
 |none=>none
def jP (h:AH) (a:Addr) (vs:FJ):JI:=
 if a.spot.isSome||a.block<h.base|| !vs.all gU then none else
 match h.get a.block with
 |some (.cells c e b x)=>if b.2=0/\a.off+vs.length<=c.length then some (h.set a.block<|some<|.cells (eB c a.off vs) e b x) else none
 |_=>none
def nF (v:Value):JA:=if Fv v then none else some v.cells.toList
def dh (P:Program) (h:AH) (t:TypeId) (a:Addr) (v:Value):JI:=
 match nF v with
 |some b=>if b.length=P.cellsOf t/\(P.info? t).isSome then jP h a b else none
 |none=>none
def jN (P:Program) (t:TypeId) (cs:FJ) (a:Nat):FN:=
 match nV P t with
 |some true=>if a+P.cellsOf t<=cs.length then some (.agg ⟨(cs.drop a).take<|P.cellsOf t⟩) else none
 |some false=>cs[a]?
 |none=>none
def Mz (place:Nat->Option (Nat×Nat)) (cells:FJ):List (Nat×Value)->JA
 |[]=>some cells
 |(i,v)::rest=>
  match place i,nF v with
  |some (a,size),some b=>if b.length=size/\a+b.length<=cells.length then Mz place (eB cells a b) rest else none
  |_,_=>none
def Tf (P:Program) (t:TypeId) (a:List (Nat×Value)):FN:=
 match rP P t,P.underlying t with
 |some z,some (.struct b)=>
  if b.all (fun f=>(P.info? f.type).isSome) then(Mz (fun i=>(b[i]?).map fun f=>(f.offset,P.cellsOf f.type)) z a).map fun l=> .agg ⟨l⟩ else none
 |some z,some (.array _ e)=>
  if(P.info? e).isSome then(Mz (fun i=>some (i*P.cellsOf e,P.cellsOf e)) z a).map fun l=> .agg ⟨l⟩ else none
 |_,_=>none
def iP (z:FJ) (n:Nat):FJ:=(List.replicate n z).flatten
def sM (v:FN) (a:Nat) (most:Nat):Option Nat:=
 match v with
 |none=>some a
 |some (.int _ i)=>if 0<=i/\i<=most then some i.toNat else none
 |some _=>none
def Hz (a:Addr):Value:= .slice (some ⟨a.block,a.off,some 2⟩) 0 0
def zY:Value:= .slice (some ⟨0,0,some 1⟩) 0 0
def aUz:Value:= .slice (some ⟨0,0,some 0⟩) 0 0
def xK (h:AH) (i:Nat):Option Bool:=match h.get i with|some (.cells _ _ _ x)=>some x|_=>none
def Hq (P:Program) (h:AH) (t:TypeId) (x:Value) (g f d:FN):FN:=
 match P.underlying t,x with
 |some (.slice e),.slice none len b=>
  match sM d b b with
  |some m=>match(if f.isNone&&d.isSome then none else sM f len m) with
   |some c=>match sM g 0 c with
    |some l=>if(P.info? e).isSome then some (.slice none (c - l)<|m - l) else none
    |none=>none
   |none=>none
  |none=>none
 |some (.slice e),.slice (some a) len b=>
  match sM d b b with
  |some m=>match(if f.isNone&&d.isSome then none else sM f len m) with
   |some c=>match sM g 0 c with
    |some l=>
     if a.spot.isSome then(if(P.info? e).isSome/\len=0/\b=0 then some (if d.isSome then zY else aUz) else none) else
     if(P.info? e).isSome/\c<=m then
      (if m=l then
       if d.isSome then some zY else
       match xK h a.block with
       |some true=>some zY
       |some false=>some (Hz<|a.add<|l*P.cellsOf e)
       |none=>none
      else some (.slice (some<|a.add<|l*P.cellsOf e) (c - l)<|m - l))
     else none
    |none=>none
   |none=>none
  |none=>none
 |some .string,.string s=>
  if d.isSome then none else
  match sM f s.size s.size with
  |some c=>match sM g 0 c with
   |some l=>some (.string<|s.extract l c)
   |none=>none
  |none=>none
 |_,_=>none
def rV (P:Program) (eq:TypeId->Value->Value->Option Bool) (xs ys:FJ):List Field->Option Bool
 |[]=>some true
 |f::a=>
  if f.name="_" then rV P eq xs ys a else
  match jN P f.type xs f.offset,jN P f.type ys f.offset with
  |some x,some y=>match eq f.type x y with
   |some true=>rV P eq xs ys a
   |some false=>some false
   |none=>none
  |_,_=>none
def xP (P:Program) (eq:TypeId->Value->Value->Option Bool) (e:TypeId) (xs ys:FJ):FL->Option Bool
 |[]=>some true
 |i::is=>
  match jN P e xs (i*P.cellsOf e),jN P e ys (i*P.cellsOf e) with
  |some x,some y=>match eq e x y with
   |some true=>xP P eq e xs ys is
   |some false=>some false
   |none=>none
  |_,_=>none
def Je (P:Program):Nat->TypeId->Value->Value->Option Bool
 |0,_,_,_=>none
 |d+1,t,x,y=>
  match P.underlying t,x,y with
  |some .bool,.bool a,.bool b=>some (a==b)
  |some (.int _),.int k a,.int i b=>if k=i then some (a==b) else none
  |some .string,.string a,.string b=>some (a==b)
  |some (.pointer _),.pointer none,.pointer b=>some b.isNone
  |some (.pointer _),.pointer<|some _,.pointer none=>some false
  |some (.interface _),.nilIface,.nilIface=>some true
  |some (.interface _),.nilIface,.iface _ _=>some false
  |some (.interface _),.iface _ _,.nilIface=>some false
  |some (.struct g),.agg c,.agg f=>if P.stoodInHeld t then none else rV P (Je P d) c.toList f.toList g.toList
  |some (.array n e),.agg c,.agg f=>if(P.info? e).isSome then xP P (Je P d) e c.toList f.toList (List.range n) else none
  |some (.slice _),.slice none _ _,.slice b _ _=>some b.isNone
  |some (.slice _),.slice (some _) _ _,.slice none _ _=>some false
  |some (.map _ _),.map none,.map b=>some b.isNone
  |some (.map _ _),.map<|some _,.map none=>some false
  |some (.func _ _ _),.nilFunc,.nilFunc=>some true
  |some (.func _ _ _),.nilFunc,.func _ _ _=>some false
  |some (.func _ _ _),.func _ _ _,.nilFunc=>some false
  |_,_,_=>none
def Fj:Operand->Bool
 |.const _=>true
 |_=>false
def Pz (P:Program) (t:TypeId) (x y:Operand) (a b:Value):Bool:=
 match a,b with
 |.nilIface,.nilIface=>Fj x||Fj y
 |.agg _,.agg _=> !P.eqGuardType P.depth t
 |_,_=>true
def aYb (op:BinOp) (x y:Int):Option Bool:=
 match op with
 |.eql=>some (x==y)
 |.neq=>some (x !=y)
 |.lss=>some (decide<|x<y)
 |.leq=>some (decide<|x<=y)
 |.gtr=>some (decide<|x>y)
 |.geq=>some (decide<|x>=y)
 |_=>none
def Wd (op:BinOp) (k:IntKind) (x y:Int):FN:=
 match op with
 |.add=>some (.int k<|k.wrap<|x+y)
 |.sub=>some (.int k<|k.wrap<|x - y)
 |.mul=>some (.int k<|k.wrap<|x*y)
 |.quo=>if y=0 then none else some (.int k<|k.wrap<|x.tdiv y)
 |.rem=>if y=0 then none else some (.int k<|x.tmod y)
 |.eql|.neq|.lss|.leq|.gtr|.geq=>(aYb op x y).map .bool
 |_=>none
def te (P:Program) (op:BinOp) (t:TypeId) (x y:Operand) (a b:Value):FN:=
 match a,b with
 |.int k m,.int c n=>if k=c then Wd op k m n else none
 |.string m,.string n=>match op with
  |.eql=>some (.bool<|m.toList==n.toList)
  |.neq=>some (.bool !(m.toList==n.toList))
  |_=>none
 |a,b=>
  match op with
  |.eql=>if Pz P t x y a b then(Je P 10000 t a b).map .bool else none
  |.neq=>if Pz P t x y a b then(Je P 10000 t a b).map fun e=> .bool !e else none
  |_=>none
def lJ (P:Program) (b:Operand->Value):Op->Option (qU×(Nat->Value))
 |.alloc e=>(rP P e).map fun z=>(.cells z e (0,0) true,fun i=> .pointer (some ⟨i,0,none⟩))
 |.box e x=>(nF<|b x).map fun l=>(.cells l e (0,0) true,fun i=> .pointer (some ⟨i,0,none⟩))
 |.buildSlice t len a=>
  match P.underlying t with
  |some (.slice e)=>
   match rP P e with
   |some z=>
    if len*P.cellsOf e<=2^24 then
     (Mz (fun i=>some (i*P.cellsOf e,P.cellsOf e)) (iP z len)<|a.toList.map fun p=>(p.1,b p.2)).map fun l=>
      (.cells l e (0,0) true,fun i=> .slice (some ⟨i,0,none⟩) len len)
    else none
   |none=>none
  |_=>none
 |.makeSlice t l c=>match P.underlying t,b l,b c with
  |some (.slice e),.int _ l,.int _ c=>
   match rP P e with
   |some z=>
    if 0<=l/\l<=c/\c<=2^40/\P.bytesOf e*c<=2^47 then
     some (.cells (iP z c.toNat) e (0,0) true,fun i=> .slice (some ⟨i,0,none⟩) l.toNat c.toNat)
    else none
   |none=>none
  |_,_,_=>none
 |.makeMap t r=>match r with
  |none=>some (.map [] 0,fun i=> .map (some i))
  |some x=>match P.underlying t,b x with
   |some (.map _ _),.int _ _=>some (.map [] 0,fun i=> .map (some i))
   |_,_=>none
 |_=>none
def O0 (P:Program) (t:TypeId):Option TypeId:=
 match P.underlying t with
 |some (.map a elem)=>match P.underlying a with
  |some (.int _)=>some elem
  |_=>none
 |_=>none
def Dm (k:IntKind) (n:Int):List (Value×Value×Nat)->Nat->Option (Option<|Nat×Value)
 |[],_=>some none
 |(.int j m,v,_)::a,i=>if k=j then(if n=m then some (some (i,v)) else Dm k n a (i+1)) else none
 |_::_,_=>none
def rm (P:Program) (t:TypeId):FN:=((P.info? t).bind (·.zero)).bind fun z=>if jJ z then some z else none
def xm (h:AH):Value->Option (List<|Value×Value×Nat)
 |.map none=>some []
 |.map (some r)=>match h.get r with
  |some (.map a _)=>some a
  |_=>none
 |_=>none
def Eo (P:Program) (h:AH) (t:TypeId) (x ix:Value) (ok:Bool):FN:=
 match O0 P t,xm h x,ix with
 |some e,some a,.int k n=>match Dm k n a 0 with
  |some (some (_,v))=>some (if ok then .tuple ⟨[v,.bool true]⟩ else v)
  |some none=>(rm P e).map fun z=>if ok then .tuple ⟨[z,.bool false]⟩ else z
  |none=>none
 |_,_,_=>none
def aP4 (k:IntKind) (n:Int) (v:Value) (es:List (Value×Value×Nat)) (a:Nat):JC:=
 match Dm k n es 0 with
 |some (some (i,_))=>some (.map (es.modify i fun e=>(.int k n,v,e.2.2)) a)
 |some none=>some (.map (es++[(.int k n,v,a)])<|a+1)
 |none=>none
def M5 (P:Program) (h:AH) (t:TypeId) (m b v:Value):JI:=
 match O0 P t,m,b with
 |some _,.map<|some r,.int k n=>if r<h.base then none else match h.get r with
  |some (.map c a)=>(aP4 k n v c a).map fun o=>h.set r (some o)
  |_=>none
 |_,_,_=>none
def Nj (P:Program) (h:AH) (t:TypeId) (m c:Value):JI:=
 match O0 P t,m,c with
 |some _,.map none,.int _ _=>some h
 |some _,.map<|some r,.int k n=>if r<h.base then none else match h.get r with
  |some (.map b a)=>match Dm k n b 0 with
   |some (some (i,_))=>some (h.set r<|some<|.map (b.eraseIdx i) a)
   |some none=>some (h.set r<|some<|.map b a)
   |none=>none
  |_=>none
 |_,_,_=>none
def dP (P:Program) (g:Operand->Value) (h:AH):Op->FN
 |.move x=>some (g x)
 |.assign x=>some (g x)
 |.pick c a b=>match g c with
  |.bool t=>some (if t then g a else g b)
  |_=>none
 |.build t l=>Tf P t (l.toList.map fun p=>(p.1,g p.2))
 |.load t a=>match g a with
  |.pointer (some a)=>C9 P h t a
  |_=>none
 |.nilCheck x=>match g x with
  |.pointer (some a)=>some (.pointer<|some a)
  |.func (.func f) a b=>some (.func (.func f) a b)
  |.func (.yield f) a b=>some (.func (.yield f) a b)
  |_=>none
 |.binOp op t x y _=>te P op t x y (g x) (g y)
 |.unOp op _ x=>match op,g x with
  |.neg,.int k n=>some (.int k<|k.wrap<|0 - n)
  |.not,.bool b=>some (.bool !b)
  |_,_=>none
 |.convert s d x=>match P.underlying s,P.underlying d,g x with
  |some _,some<|.int k,.int _ n=>some (.int k<|k.wrap n)
  |_,_,_=>none
 |.makeInterface t x=>match P.underlying t with
  |some (.interface _)=>none
  |some _=>some (.iface t<|g x)
  |none=>none
 |.makeFunc q first j=>match q with
  |.func f=>some (.func (.func f) (first.map g)<|j.map g)
  |_=>none
 |.slice t x u r v=>Hq P h t (g x) (u.map g) (r.map g) (v.map g)
 |.fieldAddr s x f=>match P.underlying s,g x with
  |some (.struct o),.pointer (some a)=>match o[f]? with
   |some fd=>if P.cellsOf fd.type=0 then none else some (.pointer<|some<|a.add fd.offset)
   |none=>none
  |_,_=>none
 |.field t x f=>match P.underlying t,g x with
  |some (.struct o),.agg m=>match o[f]? with
   |some fd=>jN P fd.type m.toList fd.offset
   |none=>none
  |_,_=>none
 |.indexAddr t x i=>match P.underlying t,g x,g i with
  |some (.array n e),.pointer<|some a,.int _ i=>if 0<=i/\i<n/\(P.info? e).isSome then some (.pointer<|some<|a.add<|i.toNat*P.cellsOf e) else none
  |some (.slice e),.slice (some a) n _,.int _ i=>if 0<=i/\i<n/\(P.info? e).isSome/\a.spot=none then some (.pointer<|some<|a.add<|i.toNat*P.cellsOf e) else none
  |_,_,_=>none
 |.index t x i=>match P.underlying t,g x,g i with
  |some (.array n e),.agg m,.int _ i=>if 0<=i/\i<n/\(P.info? e).isSome then jN P e m.toList (i.toNat*P.cellsOf e) else none
  |some .string,.string s,.int _ i=>if 0<=i then(s[i.toNat]?).map fun b=> .int .u8 b.toNat else none
  |_,_,_=>none
 |.extract t i=>match g t with
  |.tuple z=>z.toList[i]?
  |_=>none
 |.lookup t x ix ok=>Eo P h t (g x) (g ix) ok
 |_=>none
inductive bBz where
 |G5|alloc|store|call|Jy
 deriving DecidableEq
def fX:Op->bBz
 |.move _|.assign _|.pick ..|.build ..|.load ..|.nilCheck _|.binOp ..|.unOp ..|.convert ..|.makeInterface ..|.makeFunc ..|.slice ..|.fieldAddr ..
 |.field ..|.indexAddr ..|.index ..|.extract ..|.lookup ..=> .G5
 |.alloc _|.box ..|.buildSlice ..|.makeSlice ..|.makeMap ..=> .alloc
 |.store ..|.mapUpdate ..=> .store
 |.call _=> .call
 |_=> .Jy
def oB (h:AH) (size n:Nat):Value->JA
 |.slice none _ _=>if n=0 then some [] else none
 |.slice (some a) l _=>if n=0 then some [] else if n<=l then eN h a (n*size) else none
 |_=>none
def J8:Value->Option Nat
 |.slice _ n _=>some n
 |_=>none
def Ro (P:Program) (a:Array TypeId):Bool:=
 match(a[1]?).bind P.underlying with
 |some (.slice _)=>true
 |_=>false
def nJ (i bytes:Nat) (e:TypeId) (h:AH) (s x:Value):Option (Value×AH):=
 match s,J8 x with
 |.slice f b d,some n=>
  match oB h i n x with
  |some new=>
   if !new.all gU||new.length !=n*i then none else
   if b+n<=d then
    match f with
    |none=>if n=0 then some (s,h) else none
    |some a=>if n=0 then some (s,h) else if a.spot.isSome then none else
     (jP h (a.add<|b*i) new).map fun l=>(.slice f (b+n) d,l)
   else if(b+n)*(bytes+1)<=2^46 then
    match f with
    |none=>if b=0 then some (.slice (some ⟨h.next,0,none⟩) n n,h.alloc<|.cells new e (0,0) false) else none
    |some a=>
     if a.spot=some 1 then(if b=0 then some (.slice (some ⟨h.next,0,none⟩) n n,h.alloc<|.cells new e (0,0) false) else none) else
     if a.spot=some 2 then
      (match h.get a.block with
      |some (.cells c j k _)=>
       if j=e/\h.base<=a.block/\k=(0,0)/\a.off<=c.length/\b=0/\d=0 then
        some (.slice (some ⟨h.next,0,none⟩) n n,(h.set a.block none).alloc<|.cells new e (0,0) false)
       else none
      |_=>none) else
     match eN h a (b*i),h.get a.block with
     |some g,some (.cells c j k x)=>
      if !g.all gU then none else
      if x then some (.slice (some ⟨h.next,0,none⟩) (b+n)<|b+n,h.alloc<|.cells (g++new) e (0,0) false)
      else if j=e/\h.base<=a.block/\k=(0,0)/\a.off+d*i<=c.length then
       some (.slice (some ⟨h.next,0,none⟩) (b+n)<|b+n,(h.set a.block none).alloc<|.cells (g++new) e (0,0) false)
      else none
     |_,_=>none
   else none
  |_=>none
 |_,_=>none
def aMt (P:Program) (h:AH) (a:Array TypeId) (e:TypeId) (s x:Value):Option (Value×AH):=
 match(a[1]?).bind P.underlying,s,x,rP P e with
 |some (.int _),.slice none 0 0,.int _ n,some z=>if 0<n/\n<=1000/\0<P.cellsOf e/\P.bytesOf e<=1000 then some (.slice (some ⟨h.next,0,none⟩) n.toNat n.toNat,h.alloc<|.cells (iP z n.toNat) e (0,0) false) else none
 |_,_,_,_=>none
def Rk (P:Program) (h:AH) (a:Array TypeId) (s x:Value):Option (Value×AH):=
 match(a[0]?).bind P.underlying with
 |some (.slice e)=>if !Ro P a then aMt P h a e s x else
  match rP P e with
  |some _=>nJ (P.cellsOf e) (P.bytesOf e) e h s x
  |none=>none
 |_=>none
def kE (P:Program) (h:AH) (b:Builtin) (d:Array TypeId) (args:FJ):Option (Value×AH):=
 match b,args with
 |.len,[x]=>match(d[0]?).bind P.underlying,x with
  |some .string,.string s=>some (.int .i64 s.size,h)
  |some (.array n _),_=>some (.int .i64 n,h)
  |some (.slice _),.slice _ n _=>some (.int .i64 n,h)
  |some (.map _ _),x=>(xm h x).map fun g=>(.int .i64 g.length,h)
  |_,_=>none
 |.append,[s,x]=>Rk P h d s x
 |.clear,[x]=>match(d[0]?).bind P.underlying,x with
  |some _,.slice none _ _=>some (.tuple #[],h)
  |some (.slice e),.slice (some a) n _=>
   if n=0 then some (.tuple #[],h) else
   match rP P e with
   |some z=>(jP h a<|iP z n).map fun f=>(.tuple #[],f)
   |none=>none
  |_,_=>none
 |.delete,[m,k]=>match d[0]? with
  |some t=>(Nj P h t m k).map fun f=>(.tuple #[],f)
  |none=>none
 |.cap,[x]=>match(d[0]?).bind P.underlying,x with
  |some (.slice _),.slice none _ c=>some (.int .i64 c,h)
  |_,_=>none
 |.min,[.int k x,.int _ y]=>some (.int k<|if y<x then y else x,h)
 |_,_=>none
end
end Go.Ab
variable {a v:Value} {l l':FJ} {P:Program} {s:Nat×Nat} {B:Nat} {w w':World}
namespace Go.Ab
open Go.RowKit
def Du (ρ ρ':kX):Prop:=∀i x,ρ i=some x->ρ' i=some x
theorem Du.refl (ρ:kX):Du ρ ρ:=fun _ _ h=>h
def Du.trans {a b c:kX} (h:Du a b) (k:Du b c):Du a c:=fun i x d=>k i x<|h i x d
variable {ρ ρ':kX}
theorem V7.mono (h:Du ρ ρ') {f g:Fn} (k:V7 ρ f g):V7 ρ' f g:=by
 cases f<;>simp only[V7] at k ⊢<;>try exact k
 obtain⟨b,s,a,c⟩:=k;exact⟨b,s,h _ _ a,c⟩
mutual
theorem bB.mono {ρ ρ':kX} (h:Du ρ ρ'):∀(v o:Value),bB ρ v o->bB ρ' v o
 |.bool _,_,k=>GB
 |.int _ _,_,k=>GB
 |.float _ _,_,k=>GB
 |.complex _ _ _,_,k=>GB
 |.string _,_,k=>GB
 |.pointer none,_,k=>GB
 |.pointer (some _),_,k=>by obtain⟨b,s,d,c⟩:=k;exact⟨b,s,h _ _ d,c⟩
 |.slice none _ _,_,k=>GB
 |.slice (some ⟨_,_,some _⟩) _ _,_,k=>by
  obtain⟨j,l,p,g,m,r,t⟩:=k;exact⟨j,l,p,g,m,fun y=>let⟨b,s,d,c⟩:=r y;⟨b,s,h _ _ d,c⟩,t⟩
 |.slice (some ⟨_,_,none⟩) _ _,_,k=>by obtain⟨b,s,g,d,c⟩:=k;exact⟨b,s,g,h _ _ d,c⟩
 |.map none,_,k=>GB
 |.map (some _),_,k=>by obtain⟨b,s,d,c⟩:=k;exact⟨b,s,h _ _ d,c⟩
 |.chan none,_,_=>GC
 |.chan (some _),_,k=>GB
 |.func _ q e,_,k=>by
  obtain⟨i,f,a,j,l,m,c⟩:=k;exact⟨i,f,a,j.mono h,vE.mono h q f l,vE.mono h e a m,c⟩
 |.nilFunc,_,k=>GB
 |.iface _ v,_,k=>by obtain⟨u,x,c⟩:=k;exact⟨u,bB.mono h v u x,c⟩
 |.nilIface,_,k=>GB
 |.agg e,_,k=>by obtain⟨a,n,c⟩:=k;exact⟨a,vE.mono h e a n,c⟩
 |.tuple e,_,k=>by obtain⟨a,n,c⟩:=k;exact⟨a,vE.mono h e a n,c⟩
theorem vE.mono {ρ ρ':kX} (h:Du ρ ρ'):∀(v b:FO),vE ρ v b->vE ρ' v b
 |⟨l⟩,a,k=>by exact bP.mono h l a.toList k
theorem bP.mono {ρ ρ':kX} (h:Du ρ ρ'):∀(l l':FJ),bP ρ l l'->bP ρ' l l'
 |[],_,k=>by grind[bP]
 |v::l,_,k=>by
  obtain⟨b,a,c,d,e⟩:=k;exact⟨b,a,bB.mono h v b c,bP.mono h l a d,e⟩
theorem gY {ρ:kX}:∀(v:Value),jJ v=true->bB ρ v v
 |.bool _,_=>GC
 |.int _ _,_=>GC
 |.float _ _,h=>GH
 |.complex _ _ _,h=>GH
 |.string _,_=>GC
 |.pointer none,_=>GC
 |.pointer (some _),h=>GH
 |.slice none _ _,_=>GC
 |.slice (some _) _ _,h=>GH
 |.map none,_=>GC
 |.map (some _),h=>GH
 |.chan _,h=>GH
 |.func _ _ _,h=>GH
 |.nilFunc,_=>GC
 |.iface _ v,h=>by exact⟨v,gY v h,rfl⟩
 |.nilIface,_=>GC
 |.agg a,h=>by exact⟨a,Vo a h,rfl⟩
 |.tuple a,h=>by exact⟨a,Vo a h,rfl⟩
theorem Vo {ρ:kX}:∀(v:FO),G6 v=true->vE ρ v v
 |⟨l⟩,h=>by exact Am l h
theorem Am {ρ:kX}:∀(l:FJ),tB l=true->bP ρ l l
 |[],_=>by simp[bP]
 |v::l,h=>by
  simp[tB,dn] at h;exact⟨v,l,gY v h.1,Am l h.2,rfl⟩
end
theorem nM {a b:FO}:vE ρ a b↔bP ρ a.toList b.toList:=by cases a;simp[vE]
section lists
theorem bP.nil:bP ρ [] []:=by simp[bP]
theorem bP.cons (h:bB ρ v a) (k:bP ρ l l'):bP ρ (v::l) (a::l'):=by
 grind[bP]
theorem bP.jw:bP ρ (v::l) (a::l')↔bB ρ v a/\bP ρ l l':=by
 grind[bP,bP.cons]
theorem bP.length:∀{l l':FJ},bP ρ l l'->l'.length=l.length
 |[],l',h=>by grind[bP]
 |v::l,l',h=>by
  obtain⟨c,b,_,a,rfl⟩:=h;simp[bP.length a]
theorem bP.get:∀{l l':FJ} {i:Nat} {v:Value},bP ρ l l'->l[i]?=some v->∃a,l'[i]?=some a/\bB ρ v a
 |[],l',i,v,h,k=>by simp at k
 |u::l,l',0,v,h,k=>by
  grind[bP]
 |u::l,l',i+1,v,h,k=>by
  obtain⟨a,c,_,b,rfl⟩:=h;simpa using bP.get b k
def bP.ru (h:bP ρ l l') (k:l[i]?=none):l'[i]?=none:=by
 rw[List.getElem?_eq_none_iff] at k ⊢;rwa [h.length]
theorem bP.getD (i:Nat) (h:bP ρ l l'):bB ρ (l.getD i undef) (l'.getD i undef):=by
 cases k:l[i]? with
 |none=>
  have a:=h.ru k;grind[gY,undef,jJ,G6,tB]
 |some v=>
  have⟨v',hv,hr⟩:=h.get k;grind
theorem bP.append:∀{l l' m a:FJ},bP ρ l l'->bP ρ m a->bP ρ (l++m) (l'++a)
 |[],l',m,a,h,k=>by grind[bP]
 |v::l,l',m,a,h,k=>by
  obtain⟨e,d,b,c,rfl⟩:=h;exact bP.cons b<|bP.append c k
theorem bP.take:∀{l l':FJ} (n:Nat),bP ρ l l'->bP ρ (l.take n) (l'.take n)
 |_,_,0,_=>by simp[bP.nil]
 |[],l',n+1,h=>by grind[bP,bP.nil]
 |v::l,l',n+1,h=>by
  obtain⟨d,c,a,b,rfl⟩:=h;exact bP.cons a<|bP.take n b
theorem bP.drop:∀{l l':FJ} (n:Nat),bP ρ l l'->bP ρ (l.drop n) (l'.drop n)
 |_,_,0,h=>FR
 |[],l',n+1,h=>by grind[bP,bP.nil]
 |v::l,l',n+1,h=>by
  obtain⟨d,c,b,a,rfl⟩:=h;exact bP.drop n a
theorem bP.set:∀{l l':FJ} (i:Nat) {v a:Value},bP ρ l l'->bB ρ v a->bP ρ (l.set i v) (l'.set i a)
 |[],l',i,v,a,h,k=>by grind[bP,bP.nil]
 |u::l,l',0,v,a,h,k=>by
  grind[bP,bP.cons]
 |u::l,l',i+1,v,a,h,k=>by
  obtain⟨e,d,b,c,rfl⟩:=h;exact bP.cons b<|bP.set i c k
theorem bP.eB {m a:FJ} (i:Nat) (h:bP ρ l l') (k:bP ρ m a):bP ρ (eB l i m) (eB l' i a):=by
 unfold Ab.eB;rw[k.length];exact((h.take i).append k).append (h.drop _)
theorem bP.replicate (n:Nat) (h:bB ρ v a):bP ρ (List.replicate n v) (List.replicate n a):=by
 induction n with
 |zero=>exact bP.nil
 |succ n b=>grind[bP.cons]
theorem bP.Oe {α:Type} {f g:α->Value} (h:∀x,bB ρ (f x)<|g x):∀l:List α,bP ρ (l.map f) (l.map g)
 |[]=>bP.nil
 |x::l=>bP.cons (h x)<|bP.Oe h l
end lists
section gy
def bB.cells {f:Value} (h:bB ρ v f) (m:Fv v=false):bP ρ v.cells.toList f.cells.toList:=by
 cases v with
 |agg p=>obtain⟨j,k,rfl⟩:=h;exact nM.1 k
 |chan r=>simp[Fv] at m
 |pointer a=>
  have d:=h;cases a with
  |none=>subst h;exact bP.cons d bP.nil
  |some a=>obtain⟨b,s,e,rfl⟩:=h;exact bP.cons d bP.nil
 |slice a l c=>
  have d:=h;cases a with
  |none=>subst h;exact bP.cons d bP.nil
  |some a=>
   obtain⟨i,o,sp⟩:=a;cases sp with
   |none=>obtain⟨b,s,g,e,_,_,rfl⟩:=h;exact bP.cons d bP.nil
   |some _=>obtain⟨_,_,n,g,_,_,rfl⟩:=h;exact bP.cons d bP.nil
 |map r=>
  have d:=h;cases r with
  |none=>subst h;exact bP.cons d bP.nil
  |some a=>obtain⟨b,s,e,rfl⟩:=h;exact bP.cons d bP.nil
 |func q a b=>have d:=h;obtain⟨_,_,_,_,_,_,rfl⟩:=h;exact bP.cons d bP.nil
 |iface t v=>have d:=h;obtain⟨_,_,rfl⟩:=h;exact bP.cons d bP.nil
 |tuple t=>have d:=h;obtain⟨_,_,rfl⟩:=h;exact bP.cons d bP.nil
 |_=>have d:=h;subst h;exact bP.cons d bP.nil
def bB.y7 {e:Value} (h:bB ρ v e) (hc:gU v=true):e.oneCell'=true:=by
 cases v with
 |agg j=>simp[gU] at hc
 |chan r=>simp[gU] at hc
 |tuple t=>simp[gU] at hc
 |pointer a=>cases a with
  |none=>subst h;rfl
  |some a=>obtain⟨b,s,d,rfl⟩:=h;rfl
 |slice a l c=>cases a with
  |none=>subst h;rfl
  |some a=>
   obtain⟨i,o,sp⟩:=a
   cases sp with
   |none=>obtain⟨b,s,f,d,_,_,rfl⟩:=h;rfl
   |some _=>obtain⟨_,_,g,f,_,_,rfl⟩:=h;rfl
 |map r=>cases r with
  |none=>subst h;rfl
  |some a=>obtain⟨b,s,d,rfl⟩:=h;rfl
 |func k a b=>obtain⟨_,_,_,_,_,_,rfl⟩:=h;rfl
 |iface t v=>obtain⟨_,_,rfl⟩:=h;rfl
 |_=>subst h;rfl
end gy
def rS (ρ:kX):List (Value×Value×Nat)->List MapEntry->Prop
 |[],a=>a=[]
 |(k,v,n)::l,a=>∃b c t,bB ρ k b/\bB ρ v c/\rS ρ l t/\a={key:=b,val:=c,born:=n}::t
theorem rS.mono {ρ ρ':kX} (h:Du ρ ρ'):∀(l:List (Value×Value×Nat)) (es:List MapEntry),rS ρ l es->rS ρ' l es
 |[],_,k=>k
 |(_,_,_)::l,_,⟨e,f,t,a,b,c,d⟩=>⟨e,f,t,bB.mono h _ _ a,bB.mono h _ _ b,rS.mono h l t c,d⟩
def zG (P:Program) (ρ:kX) (s:Nat×Nat):qU->Obj->Prop
 |.cells c e n x,o=>∃i:FO,o= .cells i e n/\bP ρ c ((i.toList.drop s.2).take c.length)/\s.2+c.length+s.1*P.cellsOf e<=i.size/\(x=true->s.1=0/\s.2=0/\i.size=c.length)
 |.loop st mY fn tmps params assign body d,o=>∃a k p,bP ρ tmps a/\ρ d=some (k,p)/\
   o= .loop {state:=st,pending:=mY,fn:=fn,tmps:=⟨a⟩,params:=params,assign:=assign,body:=body,defers:=k}
 |.wO aMp,o=>o= .deferred (if aMp then some [] else none)
 |.map l f,o=>∃g,rS ρ l g/\o= .map ⟨g⟩ f
 |.mapIter m since seen last,o=>∃j,(match m with|none=>j=none|some r=>∃b s,ρ r=some (b,s)/\j=some b)/\o= .mapIter j since ⟨seen⟩ last
 |.R1 s pos,o=>o= .stringIter s pos
theorem zG.mono (h:Du ρ ρ') {b:qU} {o:Obj} (k:zG P ρ s b o):zG P ρ' s b o:=by
 cases b with
 |cells c e D x=>obtain⟨n,a,f,i⟩:=k;exact⟨n,a,bP.mono h _ _ f,i⟩
 |loop st mY C l params assign j d=>obtain⟨z,q,y,a,f,i⟩:=k;exact⟨z,q,y,bP.mono h _ _ a,h _ _ f,i⟩
 |wO _=>exact k
 |map A c=>obtain⟨g,a,f⟩:=k;exact⟨g,rS.mono h _ _ a,f⟩
 |mapIter m _ _ _=>
  obtain⟨v,a,f⟩:=k;refine⟨v,?_,f⟩;cases m with
  |none=>exact a
  |some r=>obtain⟨b,s,t,u⟩:=a;exact⟨b,s,h _ _ t,u⟩
 |R1 s p=>exact k
structure fT (P:Program) (B:Nat) (ρ:kX) (h:AH) (w:World):Prop where
 uE:∀i o,h.get i=some o->∀b s,ρ i=some (b,s)->∃o',w.heap[b]?=some o'/\zG P ρ s o o'
 inj:∀i j b si sj,h.base<=i->h.base<=j->(h.get i).isSome->(h.get j).isSome->ρ i=some (b,si)->ρ j=some (b,sj)->i=j
 low:∀i b s,h.base<=i->(h.get i).isSome->ρ i=some (b,s)->B<=b
 old:∀i b s,i<h.base->ρ i=some (b,s)->b<B
 iD:∀i,h.next<=i->ρ i=none
 kW:∀i,h.next<=i->h.get i=none
 rR:∀g,g<P.globals.size->ρ g=some (g,(0,0))
 size:B<=w.heap.size
 bn:h.base<=h.next
structure pT (P:Program) (B:Nat) (ρ:kX) (h:AH) (w:World) (ρ':kX) (h':AH) (w':World):Prop where
 ext:Du ρ ρ'
 inv:fT P B ρ' h' w'
 un:∀i,i<h.next->ρ i=none->ρ' i=none
 rO:∀i,i<h.next->ρ i=none->h'.get i=h.get i
 stay:∀i,i<h.next->h.get i=none->h'.get i=none
 frame:∀b,b<w.heap.size->(∀i s,h.base<=i->(h.get i).isSome->ρ i≠some (b,s))->w'.heap[b]?=w.heap[b]?
 range:∀i b s,h.base<=i->(h'.get i).isSome->ρ' i=some (b,s)->b<w.heap.size->∃j s',h.base<=j/\(h.get j).isSome/\ρ j=some (b,s')
 base:h'.base=h.base
 Bc:∀i,i<h.base->h'.get i=h.get i
 next:h.next<=h'.next
 size:w.heap.size<=w'.heap.size
 os:w'.os=w.os
 out:w'.output=w.output
 tape:w'.tape=w.tape
theorem pT.refl {h:AH} (a:fT P B ρ h w):pT P B ρ h w ρ h w where
 ext:=Du.refl ρ
 inv:=a
 un:=fun _ _ h=>h
 rO:=FR
 stay:=FR
 frame:=FR
 range:=FR
 base:=rfl
 Bc:=fun _ _=>rfl
 next:=bb _
 size:=bb _
 os:=rfl
 out:=rfl
 tape:=rfl
theorem pT.trans {ρ1 ρ2:kX} {h o p:AH} {w1 r:World} (a:pT P B ρ h w ρ1 o w1) (b:pT P B ρ1 o w1 ρ2 p r):pT P B ρ h w ρ2 p r where
 ext:=a.ext.trans b.ext
 inv:=b.inv
 un:=fun i c d=>b.un i (l5 c a.next)<|a.un i c d
 rO:=fun i c d=>(b.rO i (l5 c a.next)<|a.un i c d).trans<|a.rO i c d
 stay:=fun i c d=>b.stay i (l5 c a.next)<|a.stay i c d
 frame:=fun x f d=>by
  refine(b.frame x (l5 f a.size) ?_).trans (a.frame x f d);intro i s l n m;rw[a.base] at l;have⟨j,q,e,g,k⟩:=a.range i x s l n m f;grind
 range:=fun i x s l n m f=>by
  obtain⟨j,q,e,g,k⟩:=b.range i x s II n m<|l5 f a.size;rw[a.base] at e;exact a.range j x q e g k f
 base:=b.base.trans a.base
 Bc:=fun i c=>(b.Bc i II).trans<|a.Bc i c
 next:=cL a.next b.next
 size:=cL a.size b.size
 os:=b.os.trans a.os
 out:=b.out.trans a.out
 tape:=b.tape.trans a.tape
def pT.below {h b:AH} (a:fT P B ρ h w) (e:pT P B ρ h w ρ' b w'):Below B w w':=
 ⟨e.os,e.tape,e.out,e.size,fun k f=>e.frame k (l5 f a.size) fun i s c g d=>absurd (a.low i k s c g d) FQ⟩
end Go.Ab
variable {f:Nat->Value} {e t:TypeId} {x:Nat×(Nat×Nat)} {b r:Nat} {z:FJ} {a':Value} {k kk:IntKind} {y:Operand} {n:Int} {es:List (Value×Value×Nat)}
namespace Go.Ab
open Go.RowKit
variable {ρ:kX} {h:AH}
def A8 (ρ:kX) (i:Nat) (x:Nat×(Nat×Nat)):kX:=fun j=>if j=i then some x else ρ j
theorem cK:A8 ρ i x i=some x:=by simp[A8]
theorem cM (h:j≠i):A8 ρ i x j=ρ j:=by simp[A8,h]
theorem Du.A8 (h:ρ i=none):Du ρ (A8 ρ i x):=by
 intro j y a;grind[cM]
variable {o:qU} {o':Obj}
theorem Df (c:fT P B ρ h w) (hb:zG P (A8 ρ h.next (w.heap.size,s)) s o o')
  (l:w'.heap=w.heap.push o') (x:w'.os=w.os) (r:w'.output=w.output) (m:w'.tape=w.tape):
  pT P B ρ h w (A8 ρ h.next (w.heap.size,s)) (h.alloc o) w':=by
 have k:Du ρ (A8 ρ h.next (w.heap.size,s)):=Du.A8<|c.iD _<|bb _
 have a:∀j,(h.alloc o).get j=if j=h.next then some o else h.get j:=fun j=>AH.wQ c.bn
 refine {ext:=k,inv:=?_,un:=?_,rO:=?_,stay:=FR,frame:=?_,range:=?_,base:=rfl,Bc:=?_,next:=FW,size:=FR,os:=x,out:=r,tape:=m}
 .refine {uE:=?_,inj:=?_,low:=?_,old:=?_,iD:=?_,kW:=?_,rR:=?_,size:=by rw[l];simp;exact u3 c.size,bn:=u3 c.bn}
  .intro i D q b s1 z;rw[a] at q;by_cases e:i=h.next
   .grind[cK]
   .rw[bD1 e] at q;rw[cM e] at z;have⟨o2,h2,h3⟩:=c.uE i D q b s1 z;refine⟨o2,?_,h3.mono k⟩;grind
  .intro i j b A C d v gi p f u;rw[a] at gi p;by_cases e:i=h.next
   .by_cases n:j=h.next
    .rw[e,n]
    .rw[bD1 n] at p;rw[cM n] at u;have⟨oj,hoj⟩:=c7.1 p;have⟨o2,h2,_⟩:=c.uE j oj hoj b C u;grind[cK]
   .rw[bD1 e] at gi;rw[cM e] at f;by_cases n:j=h.next
    .have⟨oi,hoi⟩:=c7.1 gi;have⟨o2,h2,_⟩:=c.uE i oi hoi b A f;grind[cK]
    .rw[bD1 n] at p;rw[cM n] at u;exact c.inj i j b A C d v gi p f u
  .intro i b s1 d gi f;rw[a] at gi;by_cases e:i=h.next
   .subst e;rw[cK] at f;cases f;exact c.size
   .rw[bD1 e] at gi;rw[cM e] at f;exact c.low i b s1 d gi f
  .intro i b s1 d f;rw[cM fun e=>by have:=c.bn;simp at d;omega] at f;exact c.old i b s1 d f
  .intro i t;simp at t;rw[cM FQ];exact c.iD i FQ
  .intro i t;simp at t;rw[a,aaa];exact c.kW i FQ
  .intro g q;exact k _ _<|c.rR g q
 .grind[cM]
 .grind
 .grind
 .intro i b s1 d gi f y;by_cases e:i=h.next
  .grind[cK]
  .grind[cM]
 .intro i t;rw[a,bD1<|by have:=c.bn;omega]
theorem E7 (c:fT P B ρ h w) {E:qU} (n:h.base<=i) (t:h.get i=some E) (A:ρ i=some (b,s)) (hb:zG P ρ s o o')
  (p:w'.heap=w.heap.setIfInBounds b o') (z:w'.os=w.os) (u:w'.output=w.output) (q:w'.tape=w.tape):
  pT P B ρ h w ρ (h.set i<|some o) w':=by
 have m:∀j,(h.set i _).get j=if j=i then some o else h.get j:=fun j=>AH.oA n
 have a:∀j,((h.set i<|some o).get j).isSome->(h.get j).isSome:=FR
 have⟨ob,hob,_⟩:=c.uE i E t b s A
 have G:i<h.next:=by
  rcases u4 i h.next with v|v
  exact v;rw[c.kW i v] at t;cases t
 refine {ext:=Du.refl _,inv:=?_,un:=fun _ _ h=>h,rO:=?_,stay:=FR,frame:=?_,range:=?_,base:=AH.rb,Bc:=?_,next:=FW,size:=FR,os:=z,out:=u,tape:=q}
 .refine {uE:=?_,inj:=?_,low:=?_,old:=?_,iD:=?_,kW:=?_,rR:=c.rR,size:=by rw[p];simp;exact c.size,bn:=by simp;exact c.bn}
  .intro j I l C g f;rw[m] at l;by_cases e:j=i
   .grind
   .rw[bD1 e] at l;have⟨o2,h2,h3⟩:=c.uE j I l C g f;refine⟨o2,?_,h3⟩;have H:b≠C:=by
     intro y;subst y;rcases u4 j h.base with x|x;have:=c.old j b g x f;have:=c.low i b s n (by rw[t];rfl) A;omega;exact e<|c.inj j i b g s x n (by rw[l];rfl) (by rw[t];rfl) f A
    grind
  .intro j k r g sk d D l F f J;simp at d D;exact c.inj j k r g sk d D (a j l) (a k F) f J
  .intro j r g d l f;simp at d;exact c.low j r g d (a j l) f
  .intro j r g d f;simp at d;exact c.old j r g d f
  .intro j d;simp at d;exact c.iD j d
  .intro j d;simp at d;rw[m,aaa];exact c.kW j d
 .grind
 .grind
 .grind
 grind
theorem aJm (d:fT P B ρ h w) {s':Nat×Nat} {J:qU} (q:h.base<=i) (v:h.get i=some J) (F:ρ i=some (b,s)) (hb:zG P (A8 ρ h.next (b,s')) s' o o')
  (D:w'.heap=w.heap.setIfInBounds b o') (E:w'.os=w.os) (x:w'.output=w.output) (r:w'.tape=w.tape):
  pT P B ρ h w (A8 ρ h.next (b,s')) ((h.set i none).alloc o) w':=by
 have l:Du ρ (A8 ρ h.next (b,s')):=Du.A8<|d.iD _<|bb _
 have m:∀j,((h.set i none).alloc o).get j=if j=h.next then some o else if j=i then none else h.get j:=fun j=>by
  rw[AH.wQ<|by simp;exact d.bn,AH.oA q];simp
 have⟨ob,hob,_⟩:=d.uE i J v b s F
 have L:b<w.heap.size:=FR
 have M:i<h.next:=by
  rcases u4 i h.next with z|z
  exact z;rw[d.kW i z] at v;cases v
 have K:=d.low i b s q (by rw[v];rfl) F
 have n:∀j t c,j≠h.next->((h.set i none).alloc o).get j≠none->ρ j=some (t,c)->(h.get j).isSome/\j≠i/\b≠t:=by
  intro j t c e u a;rw[m,bD1 e] at u;by_cases y:j=i;grind;have I:(h.get j).isSome:=by cases hh:h.get j with|none=>grind|some _=>rfl
  refine⟨I,y,?_⟩;rintro rfl;rcases u4 j h.base with A|A;have:=d.old j b c A a;omega;exact y<|d.inj j i b c s A q I (by rw[v];rfl) a F
 refine {ext:=l,inv:=?_,un:=?_,rO:=?_,stay:=FR,frame:=?_,range:=?_,base:=FW,Bc:=?_,next:=FW,size:=FR,os:=E,out:=x,tape:=r}
 .refine {uE:=?_,inj:=?_,low:=?_,old:=?_,iD:=?_,kW:=?_,rR:=fun g C=>l _ _<|d.rR g C,size:=FR,bn:=by simp;grind}
  .intro j N u t c a;by_cases e:j=h.next
   .simp_all[bD2,cK]
   .rw[cM e] at a;have⟨_,y,hne⟩:=n j t c e FR a;rw[m,bD1 e,bD1 y] at u;have⟨o2,h2,h3⟩:=d.uE j N u t c a;exact⟨o2,FR,h3.mono l⟩
  .intro j k p c sk f H u O a G;simp at f H;by_cases e:j=h.next
   .grind[cM,cK]
   .rw[cM e] at a;have⟨s1,_,hne⟩:=n j p c e FR a;by_cases e2:k=h.next
    .grind[cK]
    .rw[cM e2] at G;have⟨s2,_,_⟩:=n k p sk e2 FR G;exact d.inj j k p c sk f H s1 s2 a G
  .intro j p c f u a;simp at f;by_cases e:j=h.next
   .grind[cK]
   .rw[cM e] at a;have⟨s1,_,_⟩:=n j p c e FR a;exact d.low j p c f s1 a
  .intro j p c f a;simp at f;rw[cM FQ] at a;exact d.old j p c f a
  .intro j f;simp at f;rw[cM FQ];exact d.iD j FQ
  .intro j f;simp at f;rw[m,aaa,aaa];exact d.kW j FQ
 .grind[cM]
 .grind
 .grind
 .grind[cK,cM]
 grind
theorem fD (b o n:Nat):Addr.add ⟨b,o,none⟩ n=⟨b,o+n,none⟩:=by
 grind[Addr.add]
variable {c:FO}
theorem Cb {e o:Nat} {a:Nat×Nat} (hb:w.heap[b]?=some (.cells c e a)):w.cell? ⟨b,o,none⟩=c[o]?:=by
 grind[World.cell?]
theorem B9 (m:fT P B ρ h w) {a:Addr} {n:Nat} (o:ρ a.block=some (b,s)) (d:eN h a n=some l):
  ∃f,(loadCells ⟨b,a.off+s.2,none⟩ n).run P w= .ok ⟨f⟩ w/\bP ρ l f/\a.spot=none/\l.length=n:=by
 rw[eN] at d
 cases hs:a.spot with
 |some x=>grind
 |none=>
  simp[hs,ef,aO,dx] at d
  split at d
  .rename_i c e q x k;split at d
   .cases d;obtain⟨u,t,g,rfl,i,p,_⟩:=m.uE _ _ k b s o;refine⟨_,?_,(i.drop _).take _,rfl,FX⟩;have:=run_loadCells_list (P:=P) (w:=w) ⟨b,a.off+s.2,none⟩ ((((g.toList.drop s.2).take c.length).drop a.off).take n) (fun j v r=>by
     grind[fD,Cb])
    grind
   .cases d
  .cases d
theorem Aj {b e:Nat} {k:Nat×Nat} (g:k.2=0):∀(vs:FJ) (w:World) (c:FO) (a i:Nat),w.heap[b]?=some (.cells c e k)->(∀v∈vs,v.oneCell'=true)->a+i+vs.length<=c.size->
  ∃d,(storeCells ⟨b,a,none⟩ vs i).run P w= .ok () d/\d.heap=w.heap.setIfInBounds b (.cells ⟨eB c.toList (a+i) vs⟩ e k)/\d.os=w.os/\d.output=w.output/\d.tape=w.tape
 |[],w,c,a,i,f,_,_=>by
  refine⟨w,by simp[storeCells],?_,rfl,rfl,rfl⟩;simp only[eB,kx,AY,BY,z1];have⟨hlt,hb'⟩:=hX.1 f;apply Array.ext_getElem?;intro j;by_cases l:b=j;subst l;simp[hlt,hb'];grind
 |v::vs,w,c,a,i,f,q,n=>by
  simp[js] at n;have o:w.cell? ⟨b,a+i,none⟩=some c[a+i]:=by rw[Cb f];grind
  have p:w.frozen? ⟨b,a+i,none⟩=false:=by simp[World.frozen?,f,g]
  have m:(w.setCell ⟨b,a+i,none⟩ v).heap[b]?=some (.cells (c.setIfInBounds (a+i) v) e k):=by
   simp[World.setCell,Array.getElem?_modify,f]
  have⟨d,hr,hh,ho,hu,ht⟩:=Aj g vs _ _ a (i+1) m FR FX;refine⟨d,?_,?_,ho,hu,ht⟩;simp[storeCells,c9];simp_all[fD,run_store,eg];rw[hh];apply Array.ext_getElem?;intro j;by_cases l:b=j;subst l;rw[DB,DB];simp only[Array.size_modify,(hX.1 f).1,eD];simp only[eB,EA,js];rw[show a+(i+1)=a+i+1 by omega,DC FX];simp only[List.getElem_set_self,eh,hT,List.take_set_of_le<|bb _,gg];grind[List.drop_set_of_lt];grind[Array.getElem?_setIfInBounds_ne,World.setCell]
theorem O7 (y:fT P B ρ h w) {a:Addr} {vs d:FJ} {q:AH} (z:ρ a.block=some (b,s)) (f:jP h a vs=some q) (o:bP ρ vs d):
  ∃m,(storeCells ⟨b,a.off+s.2,none⟩ d).run P w= .ok () m/\pT P B ρ h w ρ q m/\a.spot=none:=by
 rw[jP] at f
 split at f
 .cases f
 rename_i g
 simp only[AZ,not_or,Bool.not_eq_true,BS,Bool.not_eq_false'] at g
 split at f
 .rename_i c e J x t;split at f
  .rename_i hle;cases f;obtain⟨K,G,i,rfl,r,H,A⟩:=y.uE _ _ t b s z;have k:=r.length;have I:=o.length;have l:∀v∈d,v.oneCell'=true:=by
    intro v p;have⟨j,hj⟩:=List.getElem?_of_mem p;have n:j<vs.length:=by
     grind
    have⟨u,hu,hru⟩:=o.get<|b0 n;rw[hj] at hu;cases hu;exact hru.y7 FR
   simp only[oH] at k
   have⟨m,hrun,hheap,hos,hout,htape⟩:=Aj (P:=P) hle.1 d w i (a.off+s.2) 0 G l FR
   refine⟨m,hrun,E7 y FQ t z ⟨_,rfl,?_,?_,fun h=>⟨(A h).1,(A h).2.1,by
    grind[eB,List.length_append,List.length_take,List.length_drop]⟩⟩ hheap hos hout htape,(by cases hh:a.spot with|none=>rfl|some _=>grind)⟩
   .have:((eB i.toList (a.off+s.2+0) d).drop s.2).take (eB c a.off vs).length=eB ((i.toList.drop s.2).take c.length) a.off d:=by
     have F:(eB i.toList (a.off+s.2+0) d).drop s.2=eB (i.toList.drop s.2) a.off d:=by
      unfold eB;simp only[BY];rw[eh,BW FX,DD,x0,eh];rw[show a.off+s.2 - s.2=a.off by omega,show s.2+(a.off+d.length)=a.off+s.2+d.length by omega]
     rw[F];unfold eB;rw[DK,DK];simp only[dd,oH,q6,List.take_take];have C:min a.off c.length=a.off:=FQ
     have e2:a.off+vs.length+(c.length - (a.off+vs.length))=c.length:=FQ
     rw[C,e2];have D:min c.length a.off=a.off:=FQ
     have E:min a.off (i.toList.length - s.2)=a.off:=FR
     rw[D,E];congr 1;congr 1;grind[List.take_of_length_le];grind
    rw[this]
    exact r.eB _ o
   grind[eB,List.length_append,List.length_take,List.length_drop]
  .cases f
 .cases f
theorem Wm (a:P.cellsOf t≠0):∃i,P.info? t=some i/\i.size=P.cellsOf t:=by
 rw[Program.cellsOf] at a ⊢;cases hi:P.info? t with
 |none=>grind
 |some i=>grind
def kH {i:TypeInfo} (a:P.info? t=some i):(sizeOf t).run P w= .ok (P.cellsOf t) w:=by
 simp[sizeOf,typeInfo,a,Program.cellsOf]
theorem Qm {d:TypeDesc} (a:P.underlying t=some d):∃i,P.info? t=some i:=by
 grind[Program.underlying]
theorem R2 {b:Bool} (hb:nV P t=some b):(isAgg t).run P w= .ok b w:=by
 rw[nV] at hb;cases hd:P.underlying t with
 |none=>grind
 |some d=>
  rw[hd] at hb;simp[xa,Option.some.injEq] at hb;simp only[isAgg,c9,ca hd,bj];subst hb;cases d<;>rfl
theorem qf {b:Bool} (hb:nV P t=some b):∃i,P.info? t=some i:=by
 rw[nV] at hb;cases hd:P.underlying t with
 |none=>grind
 |some d=>exact Qm hd
theorem xZ (b:rP P e=some z):
  ∃i a,P.info? e=some i/\i.zero=some a/\(zeroValue e).run P w= .ok a w/\a.cells.toList=z/\z.length=P.cellsOf e/\(∀ρ:kX,bP ρ z z):=by
 rw[rP] at b
 cases hi:P.info? e with
 |none=>grind
 |some i=>
  cases hz0:i.zero with
  |none=>grind
  |some a=>
   simp only[hi,hz0,AS] at b
   split at b
   .rename_i c;simp only[dn,beq_iff_eq] at c;cases b;refine⟨i,a,rfl,hz0,by simp_all[zeroValue,typeInfo],rfl,FR,fun ρ=>?_⟩;exact(gY (ρ:=ρ) a c.1.1).cells (by cases a<;>first|rfl|simp[jJ] at c)
   .cases b
theorem Db {cs c:FJ} {a:Nat} (d:jN P t cs a=some v) (hc:bP ρ cs c):
  ∃e,(part t ⟨c⟩ a).run P w= .ok e w/\bB ρ v e:=by
 rw[jN] at d
 cases hb:nV P t with
 |none=>grind
 |some b=>
  have⟨i,hi⟩:=qf hb
  rw[hb] at d
  cases b with
  |true=>
   simp only at d
   split at d
   .cases d;refine⟨.agg ⟨(c.drop a).take<|P.cellsOf t⟩,?_,?_⟩
    .simp only[part,c9,R2 hb,bj,eD,kH hi,kd];grind
    .exact⟨_,by exact(hc.drop a).take _,rfl⟩
   .cases d
  |false=>
   have⟨e,hv',hr⟩:=hc.get d
   refine⟨e,?_,hr⟩
   simp only[part,c9,R2 hb,bj]
   simp[hv']
theorem Un (k:fT P B ρ h w) {a:Addr} (ha:bB ρ (.pointer<|some a) a') (d:C9 P h t a=some v):
  ∃g,(Instr.loadAt t a').run P w= .ok g w/\bB ρ v g:=by
 obtain⟨b,s,m,rfl⟩:=ha
 rw[C9] at d
 cases hb:nV P t with
 |none=>grind
 |some x=>
  have⟨i,hinf⟩:=qf hb
  rw[hb] at d
  cases x with
  |true=>
   simp[ba] at d
   obtain⟨l,p,rfl⟩:=d
   have⟨l',hrun,hrel,j,_⟩:=B9 k m p
   refine⟨.agg ⟨l'⟩,?_,?_⟩
   .rw[j];simp[Instr.loadAt,Instr.sureAddr,loadVar,c9,kd,bj,R2 hb,eD,kH hinf,hrun]
   grind[bB,vE]
  |false=>
   simp only at d
   split at d
   .cases d
   .have j:a.spot=none:=by cases hh:a.spot with|none=>rfl|some _=>grind
    split at d
    .rename_i c e y x o;obtain⟨z,q,u,rfl,n,r,_⟩:=k.uE _ _ o b s m;have⟨g,hv',hrel⟩:=n.get d;refine⟨g,?_,hrel⟩;have f:w.cell? ⟨b,a.off+s.2,none⟩=some g:=by
      rw[Cb q];rw[List.getElem?_take] at hv';split at hv';grind;cases hv'
     rw[j]
     simp only[Instr.loadAt,Instr.sureAddr,loadVar,c9,kd,bj,R2 hb]
     simp[f]
    .cases d
theorem jz (m:fT P B ρ h w) {a:Addr} {k:Value} {g:AH} (ha:bB ρ (.pointer<|some a) a') (o:bB ρ v k) (e:dh P h t a v=some g):
  ∃f,(Instr.storeAt t a' k).run P w= .ok () f/\pT P B ρ h w ρ g f:=by
 obtain⟨b,s,n,rfl⟩:=ha
 unfold dh nF at e
 cases ht:Fv v with
 |true=>grind
 |false=>
  simp only[ht,aO,dx] at e
  split at e
  .rename_i l;obtain⟨j,d⟩:=l;have⟨i,hinf⟩:=c7.1 d;have c:=o.cells ht;have⟨f,hrun,hevo,hspot⟩:=O7 m n e c;refine⟨f,?_,hevo⟩;have p:=c.length;simp only[Instr.storeAt,Instr.sureAddr,storeVar,c9,kd,bj,kH hinf];grind
  .cases e
def ny (ρ:kX):List (Nat×Value)->List (Nat×Value)->Prop
 |[],l=>l=[]
 |(i,v)::l,b=>∃a t,bB ρ v a/\ny ρ l t/\b=(i,a)::t
theorem Pw:∀(vs:FJ) (c:FO) (a i:Nat),a+i+vs.length<=c.size->
  ((vs.zipIdx i).foldl (fun d (x:Value×Nat)=>d.setIfInBounds (a+x.2) x.1) c)=⟨eB c.toList (a+i) vs⟩
 |[],c,a,i,_=>by
  simp_all[Array.ext',eB]
 |v::vs,c,a,i,b=>by
  simp[js] at b;simp[List.zipIdx_cons,CX];rw[Pw vs _ a _ FX];simp only[eB,EA,js];rw[show a+(i+1)=a+i+1 by omega,DC FX];grind[List.drop_set_of_lt]
theorem Li {place:Nat->Option (Nat×Nat)}:∀(b parts':List (Nat×Value)) (cells a r:FJ),ny ρ b parts'->bP ρ cells a->Mz place cells b=some r->
  ∃j,Instr.fill place ⟨a⟩ parts'=some ⟨j⟩/\bP ρ r j
 |[],parts',cells,a,r,k,g,e=>by
  subst k;simp[Mz,Option.some.injEq] at e;subst e;exact⟨_,rfl,g⟩
 |(i,v)::b,parts',cells,a,r,k,g,e=>by
  obtain⟨s,t,q,p,rfl⟩:=k;simp[Mz] at e;split at e;rename_i f size u l d;rw[nF] at d;split at d;cases d;cases d;split at e;rename_i m;have c:=q.cells FR;have o:=c.length;have n:=g.length;have⟨j,hr',hrel⟩:=Li b t _ _ r p (g.eB f c) e;refine⟨j,?_,hrel⟩;simp only[Instr.fill,l];simp[DY] at o m;rw[bD1];rw[<-Array.foldl_toList,Array.toList_zipIdx,Pw s.cells.toList _ f 0 FX];grind;grind;cases e;cases e
theorem ny.map {α:Type} {f g:α->Value} {k:α->Nat} (a:∀x,bB ρ (f x)<|g x):∀l:List α,ny ρ (l.map fun p=>(k p,f p)) (l.map fun p=>(k p,g p))
 |[]=>rfl
 |x::l=>⟨g x,_,a x,ny.map a l,rfl⟩
theorem Um:∀(fs:List Field),(∀f∈fs,(P.info? f.type).isSome)->
  (fs.mapM (m:=Sem) fun f=>do pure (f.offset,<-sizeOf f.type)).run P w= .ok (fs.map fun f=>(f.offset,P.cellsOf f.type)) w
 |[],_=>FW
 |f::fs,a=>by
  have⟨i,hi⟩:=c7.1<|a f eg;simp only[List.mapM_cons,c9,kH hi,bj,kd,Um fs FR,k7]
theorem o9 {a:List (Nat×Value)} {parts':Array (Nat×Value)} (p:ny ρ a parts'.toList) (b:Tf P t a=some v):
  ∃q,(Instr.build t parts').run P w= .ok q w/\bB ρ v q:=by
 rw[Tf] at b
 split at b
 .rename_i z d o g;have⟨i,zv,_,_,hzr,hzc,_,hzz⟩:=xZ (w:=w) o;split at b
  .simp[ba] at b;obtain⟨l,j,rfl⟩:=b;have⟨r',hr',hrel⟩:=Li a parts'.toList z z l p (hzz ρ) j;refine⟨_,?_,IP⟩;have c:zv.cells=⟨z⟩:=HQ
   have k:(d.mapM (m:=Sem) fun f=>do pure (f.offset,<-sizeOf f.type)).run P w= .ok (d.map fun f=>(f.offset,P.cellsOf f.type)) w:=by
    rw[Array.mapM_eq_mapM_toList];simp only[Sem.run_map];rw[Um d.toList fun f s=>by
     grind[Array.all_eq_true']]
    simp[bj,Result.ok.injEq,and_true];grind
   simp only[Instr.build,c9,hzr,bj,ca g,k,c]
   simp_all
  .cases b
 .rename_i z n e o g;have⟨i,zv,_,_,hzr,hzc,_,hzz⟩:=xZ (w:=w) o;split at b
  .rename_i r;have⟨ie,hie⟩:=c7.1 r;simp[ba] at b;obtain⟨l,j,rfl⟩:=b;have⟨r',hr',hrel⟩:=Li a parts'.toList z z l p (hzz ρ) j;refine⟨_,?_,IP⟩;have c:zv.cells=⟨z⟩:=HQ
   simp only[Instr.build,c9,hzr,bj,ca g,kH hie,c,hr']
   rfl
  .cases b
 .cases b
def Od (ρ:kX):FN->FN->Prop
 |none,v=>v=none
 |some v,a=>∃u,bB ρ v u/\a=some u
theorem Od.map {c a:Operand->Value} (b:∀x,bB ρ (c x)<|a x) (o:Option Operand):Od ρ (o.map c) (o.map a):=by
 cases o with
 |none=>rfl
 |some x=>exact⟨_,b x,rfl⟩
theorem zV (c:bB ρ v a) {d y:Nat} (e:y<=b) (hb:sM (some v) d y=some r):(∀code,(Instr.sliceBound a b code).run P w= .ok r w)/\r<=y:=by
 unfold sM at hb;grind[bB,run_sliceBound]
theorem Ea {n i f o j p:FN} (a:Od ρ n o) (e:Od ρ i j) (k:Od ρ f p) (isS:Bool) {len cap m q l:Nat} (hc:cap<=b)
  (r:sM f cap cap=some m) (g:(if i.isNone&&f.isSome then none else sM i len m)=some q) (c:sM n 0 q=some l):
  (Instr.sliceBounds isS len b o j p).run P w= .ok (l,q,if f.isSome then m else b) w/\m<=cap/\l<=q/\(f=none->m=cap):=by
 cases f with
 |none=>
  subst k
  simp[sM,Option.some.injEq] at r;subst r
  cases i with
  |none=>
   subst e
   simp[sM] at g;subst g
   cases n with
   |none=>subst a;simp[sM] at c;subst c;simp[Instr.sliceBounds]
   |some v=>
    obtain⟨u,d,rfl⟩:=a
    have⟨hr,hle⟩:=zV (P:=P) (w:=w) d (bb _) c
    simp_all[Instr.sliceBounds]
  |some v=>
   obtain⟨u,d,rfl⟩:=e
   have⟨hr,hle⟩:=zV (P:=P) (w:=w) d hc g
   cases n with
   |none=>subst a;simp[sM] at c;subst c;simp[Instr.sliceBounds,hr]
   |some v=>
    obtain⟨u,d,rfl⟩:=a
    have⟨hr2,hle2⟩:=zV (P:=P) (w:=w) d (bb _) c
    simp_all[Instr.sliceBounds]
 |some x=>
  obtain⟨t,s,rfl⟩:=k
  have⟨hr0,hle0⟩:=zV (P:=P) (w:=w) s hc r
  cases i with
  |none=>simp at g
  |some v=>
   obtain⟨u,d,rfl⟩:=e
   have⟨hr,hle⟩:=zV (P:=P) (w:=w) d (bb _) g
   cases n with
   |none=>simp[Od] at a;simp[sM] at c;subst c;simp_all[Instr.sliceBounds]
   |some v=>
    obtain⟨u,d,rfl⟩:=a
    have⟨hr2,hle2⟩:=zV (P:=P) (w:=w) d (bb _) c
    simp_all[Instr.sliceBounds]
theorem j9 (hi:fT P B ρ h w) {x Z:Value} {X E o G D H:FN} (L:bB ρ x Z) (n:Od ρ X G) (k:Od ρ E D) (g:Od ρ o H)
  (d:Hq P h t x X E o=some v):∃Y,(Instr.sliceAt t Z G D H).run P w= .ok Y w/\bB ρ v Y:=by
 unfold Hq at d
 split at d
 .rename_i e len u A;subst L;split at d
  .rename_i m M;split at d
   .rename_i C z;split at d
    .rename_i l I;split at d
     .rename_i J;cases d;have⟨i,f⟩:=c7.1 J;have⟨j,_,_,N⟩:=Ea (P:=P) (w:=w) n k g true (bb u) M z I;have S:(if o.isSome then m else u)=m:=HB
      rw[S] at j
      refine⟨.slice none (C - l)<|m - l,?_,GC⟩
      simp only[Instr.sliceAt,Instr.slice,c9,ca A,bj,j,kH f,kd,Option.map_none]
      simp
     .cases d
    .cases d
   .cases d
  .cases d
 .rename_i e a len u A;obtain⟨ab,Q,q⟩:=a;split at d
  .rename_i m M;split at d
   .rename_i C z;split at d
    .rename_i l I;split at d
     .rename_i U;obtain⟨sp,rfl⟩:∃sp,q=some sp:=by cases q with|none=>simp at U|some sp=>grind
      split at d
      .rename_i J;obtain⟨f,rfl,rfl⟩:=J;cases d;have⟨i,f⟩:=c7.1 f;obtain⟨_,_,O,r,_,_,rfl⟩:=L;have⟨j,hmc,hlh,N⟩:=Ea (P:=P) (w:=w) n k g true (og r) M z I;obtain rfl:m=0:=FQ
       have hz:C=0:=by
        cases E with
        |none=>
         simp_all
        |some v=>
         unfold sM at z;grind
       subst hz
       obtain rfl:l=0:=FQ
       cases hms:o.isSome with
       |true=>
        refine⟨.slice (some O) 0 0,?_,?_⟩
        .simp[Instr.sliceAt,Instr.slice,c9,ca A,bj,j,kH f,kd,xa,hms,eD]
        .simp only[eD,zY,bB];grind
       |false=>
        refine⟨.slice (some<|if r=0 then O else O.add (0*P.cellsOf e)) 0 r,?_,?_⟩
        .simp only[Instr.sliceAt,Instr.slice,c9,ca A,bj,j,kH f,kd,xa,hms,aO,dx,Nat.sub_zero];split<;>rfl
        .simp only[aO,dx,aUz,bB];grind
      .cases d
     .have U:q=none:=HB
      subst U
      obtain⟨b,s,r,W,R,α,rfl⟩:=L
      split at d
      .rename_i J;have⟨i,f⟩:=c7.1 J.1;have⟨j,hmc,hlh,N⟩:=Ea (P:=P) (w:=w) n k g true R M z I;have K:(Instr.sliceAt t (.slice (some ⟨b,Q+s.2,none⟩) len r) G D H).run P w=
         .ok (.slice (some<|if(if o.isSome then m else r)=l then⟨b,Q+s.2,none⟩ else⟨b,Q+s.2+l*P.cellsOf e,none⟩) (C - l)<|(if o.isSome then m else r) - l) w:=by
        simp only[Instr.sliceAt,Instr.slice,c9,ca A,bj,j,kH f,kd,xa,fD]
        grind
       refine⟨_,K,?_⟩
       split at d
       .rename_i F;subst F;obtain rfl:C=m:=FQ
        split at d
        .cases d;simp_all[eD,zY,bB]
        .have T:o=none:=HB
         subst T
         have N:=N rfl
         split at d
         .rename_i hex;cases d;rw[xK] at hex;split at hex
          .rename_i c el fz x hg;cases hex;have⟨_,_,_,_,_,_,hx0⟩:=hi.uE _ _ hg b s W;simp only[ef,aO,dx,zY,bB];grind
          .cases hex
         .cases d;rw[fD];simp only[ef,aO,dx,Hz,bB];rw[BZ];refine⟨trivial,trivial,_,_,FQ,fun _=>⟨b,s,W,FQ,fun V=>?_⟩,rfl⟩;grind
         .cases d
       .rename_i F;cases d;cases o with
        |none=>
         simp[ef,aO,dx]
         rw[aaa,fD]
         grind[bB]
        |some y=>
         simp[EB,eD]
         rw[fD,bD1 F]
         grind[bB]
      .cases d
    .cases d
   .cases d
  .cases d
 .rename_i s A;simp only[bB] at L;subst L;split at d
  .cases d
  .rename_i p;have p:o=none:=HB
   subst p
   split at d
   .rename_i C z;split at d
    .rename_i l I;cases d;obtain⟨j,_⟩:=Ea (P:=P) (w:=w) n k g false (bb s.size) (m:=s.size) rfl (by simpa using z) I;simp only[Od] at g;subst g;refine⟨.string<|s.extract l C,?_,GN⟩;simp only[Instr.sliceAt,Instr.slice,c9,ca A,bj,ef,aO,dx,kd] at j ⊢;simp[j]
    .cases d
   .cases d
 .cases d
theorem A2 {d:Nat} {eq:TypeId->Value->Value->Option Bool} (heq:∀t x y j k r,bB ρ x j->bB ρ y k->eq t x y=some r->(Op.equalIn d t j k).run P w= .ok r w)
  {xs ys a b:FJ} (g:bP ρ xs a) (i:bP ρ ys b):∀(fs:List Field) (r:Bool),rV P eq xs ys fs=some r->(Op.eqFields d ⟨a⟩ ⟨b⟩ fs).run P w= .ok r w
 |[],r,h=>by simp_all[rV,Option.some.injEq,Op.eqFields]
 |f::fs,r,h=>by
  simp[rV] at h;split at h;rename_i e;simp[Op.eqFields,e,ne_eq,not_true_eq_false,dx];exact A2 heq g i fs r h;rename_i e;simp only[Op.eqFields,ne_eq,e,not_false_eq_true,eD,c9];split at h;rename_i x y l m;have⟨j,hxr,hxv⟩:=Db (w:=w) l g;have⟨k,hyr,hyv⟩:=Db (w:=w) m i;simp only[hxr,hyr,bj];split at h;rename_i c;simp only[heq _ _ _ _ _ _ hxv hyv c,bj];simpa using A2 heq g i fs r h;rename_i c;cases h;simp[heq _ _ _ _ _ _ hxv hyv c];cases h;cases h
theorem Jv {d:Nat} {e:TypeId} {eq:TypeId->Value->Value->Option Bool} (heq:∀t x y f g r,bB ρ x f->bB ρ y g->eq t x y=some r->(Op.equalIn d t f g).run P w= .ok r w)
  {xs ys a b:FJ} (j:bP ρ xs a) (k:bP ρ ys b):∀(is:FL) (r:Bool),xP P eq e xs ys is=some r->(Op.eqItems d e (P.cellsOf e) ⟨a⟩ ⟨b⟩ is).run P w= .ok r w
 |[],r,h=>by simp_all[xP,Option.some.injEq,Op.eqItems]
 |i::is,r,h=>by
  simp[xP] at h;simp only[Op.eqItems,c9];split at h;rename_i x y l m;have⟨f,hxr,hxv⟩:=Db (w:=w) l j;have⟨g,hyr,hyv⟩:=Db (w:=w) m k;simp only[hxr,hyr,bj];split at h;rename_i c;simp only[heq _ _ _ _ _ _ hxv hyv c,bj];simpa using Jv heq j k is r h;rename_i c;cases h;simp[heq _ _ _ _ _ _ hxv hyv c];cases h;cases h
set_option maxHeartbeats 1000000 in
theorem aEx (d:Nat):∀(t:TypeId) (x y o p:Value) (r:Bool),bB ρ x o->bB ρ y p->Je P d t x y=some r->(Op.equalIn d t o p).run P w= .ok r w:=by
 induction d with
 |zero=>simp_all[Je]
 |succ d q=>
  intro t x y o p r g f h;unfold Je at h;split at h;rename_i c;subst g f;cases h;simp[Op.equalIn,ca c];rename_i c;subst g f;split at h;rename_i z;cases h;simp[Op.equalIn,ca c,z];cases h;rename_i c;subst g f;cases h;simp[Op.equalIn,ca c];rename_i b c;subst g;cases h;cases b with
  |none=>subst f;simp[Op.equalIn,ca c]
  |some b=>obtain⟨_,_,_,rfl⟩:=f;simp[Op.equalIn,ca c]
  rename_i c;obtain⟨_,_,_,rfl⟩:=g;subst f;cases h;simp[Op.equalIn,ca c];rename_i c;subst g f;cases h;simp[Op.equalIn,ca c];rename_i c;subst g;obtain⟨_,_,rfl⟩:=f;cases h;simp[Op.equalIn,ca c];rename_i c;obtain⟨_,_,rfl⟩:=g;subst f;cases h;simp[Op.equalIn,ca c];rename_i s A C c;obtain⟨l,j,rfl⟩:=g;obtain⟨m,k,rfl⟩:=f;split at h;cases h;have v:P.fieldsOf t=s:=by simp[Program.fieldsOf,c]
  rw[run_equalIn_struct w d t l m FR FR,v];exact A2 q (nM.1 j) (nM.1 k) _ _ h;rename_i n e A C c;obtain⟨l,j,rfl⟩:=g;obtain⟨m,k,rfl⟩:=f;split at h;rename_i u;have⟨i,hi⟩:=c7.1 u;rw[run_equalIn_array w d l m c hi];exact Jv q (nM.1 j) (nM.1 k) _ _ h;cases h;rename_i b _ _ c;simp[bB] at g;subst g;cases h;cases b with
  |none=>subst f;simp[Op.equalIn,ca c]
  |some b=>
   obtain⟨_,_,sp⟩:=b;cases sp with
   |none=>obtain⟨_,_,_,_,_,_,rfl⟩:=f;simp[Op.equalIn,ca c]
   |some _=>obtain⟨_,_,_,_,_,_,rfl⟩:=f;simp[Op.equalIn,ca c]
  rename_i a _ _ _ _ c;simp[bB] at f;subst f;cases h;obtain⟨_,_,sp⟩:=a;cases sp with
  |none=>obtain⟨_,_,_,_,_,_,rfl⟩:=g;simp[Op.equalIn,ca c]
  |some _=>obtain⟨_,_,_,_,_,_,rfl⟩:=g;simp[Op.equalIn,ca c]
  rename_i b c;subst g;cases h;cases b with
  |none=>subst f;simp[Op.equalIn,ca c]
  |some b=>obtain⟨_,_,_,rfl⟩:=f;simp[Op.equalIn,ca c]
  rename_i c;obtain⟨_,_,_,rfl⟩:=g;subst f;cases h;simp[Op.equalIn,ca c];rename_i c;subst g f;cases h;simp[Op.equalIn,ca c];rename_i c;subst g;obtain⟨_,_,_,_,_,_,rfl⟩:=f;cases h;simp[Op.equalIn,ca c];rename_i c;obtain⟨_,_,_,_,_,_,rfl⟩:=g;subst f;cases h;simp[Op.equalIn,ca c];cases h
variable {op:BinOp}
theorem Yc {x:Operand} {b e:Value} (ha:bB ρ a a') (hb:bB ρ b e) (k:Fv a=false) (i:Fv b=false) (l:Pz P t x y a b=true):
  (eqGuard op t x y a' e).run P w= .ok () w:=by
 cases a with
 |chan r=>simp[Fv] at k
 |nilIface=>
  subst ha
  cases b with
  |chan r=>simp[Fv] at i
  |nilIface=>
   subst hb
   simp[Pz,AZ] at l
   cases x with
   |const c=>rw[eqGuard_nil_constL];rfl
   |_=>
    cases y with
    |const c=>rw[eqGuard_nil_constR];rfl
    |_=>grind[Fj]
  |iface u v=>obtain⟨_,_,rfl⟩:=hb;rw[eqGuard_nil_iface];rfl
  |agg d=>obtain⟨_,_,rfl⟩:=hb;cases op<;>rfl
  |tuple d=>obtain⟨_,_,rfl⟩:=hb;cases op<;>rfl
  |func g f c=>obtain⟨_,_,_,_,_,_,rfl⟩:=hb;cases op<;>rfl
  |pointer a=>cases a with
   |none=>subst hb;cases op<;>rfl
   |some a=>obtain⟨_,_,_,rfl⟩:=hb;cases op<;>rfl
  |map a=>cases a with
   |none=>subst hb;cases op<;>rfl
   |some a=>obtain⟨_,_,_,rfl⟩:=hb;cases op<;>rfl
  |slice a _ _=>cases a with
   |none=>subst hb;cases op<;>rfl
   |some a=>
    obtain⟨_,_,sp⟩:=a
    cases sp with
    |none=>obtain⟨_,_,_,_,_,_,rfl⟩:=hb;cases op<;>rfl
    |some _=>obtain⟨_,_,_,_,_,_,rfl⟩:=hb;cases op<;>rfl
  |_=>subst hb;cases op<;>rfl
 |iface u v=>obtain⟨_,_,rfl⟩:=ha;rw[eqGuard_at_iface];rfl
 |tuple d=>obtain⟨_,_,rfl⟩:=ha;rw[eqGuard_at_tuple];rfl
 |func g f c=>obtain⟨_,_,_,_,_,_,rfl⟩:=ha;rw[eqGuard_at_func];rfl
 |pointer a=>cases a with
  |none=>simp_all[bB,eqGuard_at_pointer]
  |some a=>obtain⟨_,_,_,rfl⟩:=ha;rw[eqGuard_at_pointer];rfl
 |map a=>cases a with
  |none=>simp_all[bB,eqGuard_at_map]
  |some a=>obtain⟨_,_,_,rfl⟩:=ha;rw[eqGuard_at_map];rfl
 |slice a _ _=>cases a with
  |none=>simp_all[bB,eqGuard_at_slice]
  |some a=>
   obtain⟨_,_,sp⟩:=a
   cases sp with
   |none=>obtain⟨_,_,_,_,_,_,rfl⟩:=ha;rw[eqGuard_at_slice];rfl
   |some _=>obtain⟨_,_,_,_,_,_,rfl⟩:=ha;rw[eqGuard_at_slice];rfl
 |bool _=>simp_all[bB,eqGuard_at_bool]
 |int _ _=>simp_all[bB,eqGuard_at_int]
 |float _ _=>simp_all[bB,eqGuard_at_float]
 |complex _ _ _=>simp_all[bB,eqGuard_at_complex]
 |string _=>simp_all[bB,eqGuard_at_string]
 |nilFunc=>simp_all[bB,eqGuard_at_nilFunc]
 |agg d=>
  obtain⟨j,_,rfl⟩:=ha
  cases b with
  |agg m=>
   grind[bB,Pz,Bool.not_eq_true',run_eqGuard_agg]
  |chan r=>simp[Fv] at i
  |iface u v=>obtain⟨_,_,rfl⟩:=hb;cases op<;>rfl
  |tuple d=>obtain⟨_,_,rfl⟩:=hb;cases op<;>rfl
  |func g f c=>obtain⟨_,_,_,_,_,_,rfl⟩:=hb;cases op<;>rfl
  |pointer a=>cases a with
   |none=>subst hb;cases op<;>rfl
   |some a=>obtain⟨_,_,_,rfl⟩:=hb;cases op<;>rfl
  |map a=>cases a with
   |none=>subst hb;cases op<;>rfl
   |some a=>obtain⟨_,_,_,rfl⟩:=hb;cases op<;>rfl
  |slice a _ _=>cases a with
   |none=>subst hb;cases op<;>rfl
   |some a=>
    obtain⟨_,_,sp⟩:=a
    cases sp with
    |none=>obtain⟨_,_,_,_,_,_,rfl⟩:=hb;cases op<;>rfl
    |some _=>obtain⟨_,_,_,_,_,_,rfl⟩:=hb;cases op<;>rfl
  |_=>subst hb;cases op<;>rfl
def Kp {d:Nat} {x y:Value} {r:Bool} (h:Je P d t x y=some r):Fv x=false/\Fv y=false:=by
 cases d with
 |zero=>simp[Je] at h
 |succ d=>unfold Je at h;split at h<;>first|exact⟨rfl,rfl⟩|cases h
theorem aMb {m:Int} (a:Wd op k m n=some v):(binOp op t (.int k m)<|.int k n).run P w= .ok v w/\∀ρ:kX,bB ρ v v:=by
 cases op<;>simp only[Wd,aYb,xa,Option.some.injEq] at a<;>try cases a
 case add=>exact⟨by rw[binOp_add];rfl,fun ρ=>GN⟩
 case sub=>exact⟨by rw[binOp_sub];rfl,fun ρ=>GN⟩
 case mul=>exact⟨by rw[binOp_mul];rfl,fun ρ=>GN⟩
 case quo=>
  split at a;cases a;cases a;simp_all[binOp_quo,Op.intDiv,bB]
 case rem=>
  split at a;cases a;cases a;simp_all[binOp_rem,Op.intDiv,bB]
 case eql=>simp_all[binOp_eql,bB]
 case neq=>simp_all[binOp_neq,bB]
 case lss=>simp_all[binOp_lss,bB]
 case leq=>simp_all[binOp_leq,bB]
 case gtr=>simp_all[binOp_gtr,bB]
 simp_all[binOp_geq,bB]
theorem Js {b d:Value} {r:Bool} (ha:bB ρ a a') (hb:bB ρ b d) (e:Je P 10000 t a b=some r) (j:∀k m g n,¬(a= .int k m/\b= .int g n)) (l:∀m n,¬(a= .string m/\b= .string n)):
  (binOp .eql t a' d).run P w= .ok (.bool r) w/\(binOp .neq t a' d).run P w= .ok (.bool !r) w:=by
 have s:(Op.equal t a' d).run P w= .ok r w:=aEx 10000 t a b a' d r ha hb e
 have⟨h1,h2⟩:=Kp e
 have p:∀op,(op=BinOp.eql\/op=BinOp.neq)->binOp op t a' d=(if op= .eql then(do pure (.bool<|<-Op.equal t a' d):Sem Value) else do pure (.bool<|!(<-Op.equal t a' d))):=by
  intro op o;cases a with
  |chan r=>simp[Fv] at h1
  |int k m=>
   cases b with
   |int g n=>grind
   |_=>
    simp_all[Je]
  |string m=>
   cases b with
   |string n=>grind
   |_=>
    simp_all[Je]
  |float k m=>simp_all[Je]
  |complex k m n=>simp_all[Je]
  |tuple i=>simp_all[Je]
  |bool c=>grind[bB,binOp]
  |nilFunc=>grind[bB,binOp]
  |nilIface=>grind[bB,binOp]
  |iface u v=>grind[bB,binOp]
  |func q f c=>grind[bB,binOp]
  |agg i=>grind[bB,binOp]
  |pointer a=>cases a with
   |none=>grind[bB,binOp]
   |some a=>grind[bB,binOp]
  |map a=>cases a with
   |none=>grind[bB,binOp]
   |some a=>grind[bB,binOp]
  |slice a _ _=>cases a with
   |none=>grind[bB,binOp]
   |some a=>
    obtain⟨_,_,sp⟩:=a
    cases sp with
    |none=>grind[bB,binOp]
    |some _=>grind[bB,binOp]
 simp_all
theorem aEw {x:Operand} {b e:Value} (ha:bB ρ a a') (hb:bB ρ b e) (c:te P op t x y a b=some v):
  ∃f,(do eqGuard op t x y a' e;binOp op t a' e:Sem Value).run P w= .ok f w/\bB ρ v f:=by
 unfold te at c
 split at c
 .simp[bB] at ha hb;split at c
  .rename_i i;have⟨h1,h2⟩:=aMb (P:=P) (w:=w) (t:=t) c;grind[Sem.run_bind,eqGuard_at_int,Sem.run_pure,Result.andThen_ok]
  .cases c
 .simp only[bB] at ha hb;subst ha hb;split at c<;>cases c
  .exact⟨_,GO,GN⟩
  .exact⟨_,GO,GN⟩
 .split at c
  .split at c
   .simp only[ba] at c;obtain⟨r,d,rfl⟩:=c;have⟨h1,h2⟩:=Kp d;refine⟨.bool r,?_,GC⟩;grind[Sem.run_bind,Yc,Result.andThen_ok,Js]
   .cases c
  .split at c
   .rename_i g;simp only[ba] at c;obtain⟨r,d,rfl⟩:=c;have⟨h1,h2⟩:=Kp d;refine⟨.bool !r,?_,GC⟩;simp[c9,Yc ha hb h1 h2 g,bj,(Js ha hb d (FR)<|FR).2]
   .cases c
  .cases c
theorem K3 {o:Obj} (a:w.heap[r]?=some o) (hc:∀c e f,o≠.cells c e f):(getObj r).run P w= .ok o w:=by
 grind[getObj,Sem.run]
theorem Ao {o:Obj} (a:w.heap[r]?=some o) (hc:∀c e f,o≠.cells c e f):(setObj r o').run P w= .ok () {w with heap:=w.heap.setIfInBounds r o'}:=by
 grind[setObj,Sem.run]
theorem xI {es:Array MapEntry} {c:Nat} (a:w.heap[r]?=some (.map es c)):(getObj r).run P w= .ok (.map es c) w:=
 K3 a FR
theorem Fg {es:Array MapEntry} {c:Nat} (a:w.heap[r]?=some (.map es c)):(setObj r o').run P w= .ok () {w with heap:=w.heap.setIfInBounds r o'}:=
 Ao a FR
theorem Rz (h:O0 P t=some e):∃a k,P.underlying t=some (.map a e)/\P.underlying a=some (.int k):=by
 grind[O0]
def aRx (ρ:kX):Option (Nat×Value)->Option (Nat×Value)->Prop
 |none,y=>y=none
 |some (i,v),y=>∃a,bB ρ v a/\y=some (i,a)
theorem N1 {kk k:IntKind} {n:Int}:∀(es:List (Value×Value×Nat)) (c:List MapEntry) (i:Nat) (r:Option (Nat×Value)),rS ρ es c->Dm k n es i=some r->
  ∃d,Instr.findNow (.int kk) (.int k n) c i=some d/\aRx ρ r d
 |[],c,i,r,e,a=>by
  subst e;simp[Dm,Option.some.injEq] at a;subst a;exact⟨none,rfl,rfl⟩
 |(f,v,b)::es,c,i,r,e,a=>by
  obtain⟨u,p,t,g,l,o,rfl⟩:=e;cases f with
  |int j m=>
   simp[bB] at g;simp only[Dm] at a;split at a;rename_i q;split at a;simp[Option.some.injEq] at a;subst a;refine⟨_,?_,p,l,rfl⟩;grind[Instr.findNow,Instr.sameNow];rename_i s;have⟨d,hr,hrel⟩:=N1 (kk:=kk) es t _ r o a;refine⟨d,?_,hrel⟩;grind[Instr.findNow,Instr.sameNow];cases a
  |_=>simp[Dm] at a
def tX {c:TypeId} (f:P.underlying c=some (.int kk)) {a:List MapEntry} {r:Option (Nat×Value)} (d:rS ρ es a) (e:Dm k n es 0=some r):
  ∃b,(Instr.findKey c (.int k n) a).run P w= .ok b w/\aRx ρ r b:=by
 have⟨b,hr,hrel⟩:=N1 (kk:=kk) es a 0 r d e
 refine⟨b,?_,hrel⟩
 simp[Instr.findKey,c9,ca f,bj,hr,kd]
theorem pL {a:TypeId} (b:P.underlying a=some (.int kk)) (e:Bool):(Instr.checkKey e 10000 a<|.int k n).run P w= .ok () w:=by
 rw[Instr.checkKey,c9,ca b];rfl
theorem aFj {z:Value} (a:rm P t=some z):(zeroValue t).run P w= .ok z w/\bB ρ z z:=by
 rw[rm] at a;cases hi:P.info? t with
 |none=>grind
 |some i=>
  cases hz0:i.zero with
  |none=>grind
  |some z0=>
   simp only[hi,hz0,AS] at a;split at a;simp_all[zeroValue,typeInfo,gY];cases a
theorem aBg (k:fT P B ρ h w) {x e:Value} (f:bB ρ x e) (d:xm h x=some es):
  ∃a,rS ρ es a/\((e= .map none/\a=[])\/∃r c,e= .map (some r)/\w.heap[r]?=some (.map ⟨a⟩ c)):=by
 unfold xm at d
 split at d
 .cases d;simp[bB] at f;exact⟨[],rfl,FR⟩
 .split at d
  .rename_i g c j;cases d;obtain⟨b,s,i,rfl⟩:=f;obtain⟨n,l,a,m,rfl⟩:=k.uE _ _ j b s i;grind
  .cases d
 .cases d
theorem vb (o:fT P B ρ h w) {x m ix f:Value} {ok:Bool} (A:bB ρ x m) (g:bB ρ ix f) (a:Eo P h t x ix ok=some v):
  ∃l,(Instr.lookup t m f ok).run P w= .ok l w/\bB ρ v l:=by
 unfold Eo at a
 split at a
 .rename_i e D k n q s;have⟨key,kk,ht,hkt⟩:=Rz q;have⟨es',he,hx'⟩:=aBg o A s;subst g;have sL:∀(r:Option (Nat×Value)) (b:Option _),(Instr.findKey key (.int k n) es').run P w= .ok b w->
    (Instr.lookup t m (.int k n) ok).run P w=(match b with
     |some (_,v)=>(.ok (if ok then .tuple #[v,.bool true] else v) w:Result Value)
     |none=>((zeroValue e).run P w).andThen fun z w=> .ok (if ok then .tuple #[z,.bool false] else z) w):=by
   intro r b d
   rcases hx' with⟨rfl,rfl⟩|⟨r,c,rfl,u⟩
   .simp only[Instr.lookup,c9,ca ht,bj,pL hkt,d,kd];cases b with
    |some p=>rfl
    |none=>simp_all
   .simp only[Instr.lookup,c9,ca ht,bj,xI u,pL hkt,d,kd];cases b with
    |some p=>rfl
    |none=>simp_all
  split at a
  .rename_i i v0 d;obtain⟨b,j,l,y,rfl⟩:=tX (w:=w) hkt he d;refine⟨_,sL none _ j,?_⟩;grind[bB,vE,bP.cons,bP.nil]
  .rename_i d;simp[ba] at a;obtain⟨z,C,a⟩:=a;have⟨b,j,hr'⟩:=tX (w:=w) hkt he d;subst hr';have⟨hzr,hzz⟩:=aFj (w:=w) (ρ:=ρ) C;refine⟨_,by rw[sL none _ j,hzr];rfl,?_⟩;grind[bB,vE,bP.cons,bP.nil]
  .cases a
 .cases a
theorem rS.length:∀{es:List (Value×Value×Nat)} {a:List MapEntry},rS ρ es a->es.length=a.length
 |[],_,c=>by grind[rS]
 |(_,_,_)::es,_,⟨_,_,t,_,_,b,rfl⟩=>by simp[rS.length b]
theorem rS.aMm:∀{es:List (Value×Value×Nat)} {a:List MapEntry} {k k' v b:Value} {c:Nat},rS ρ es a->bB ρ k k'->bB ρ v b->
  rS ρ (es++[(k,v,c)]) (a++[{key:=k',val:=b,born:=c}])
 |[],_,k,k',v,b,c,l,d,e=>by grind[rS]
 |(_,_,_)::es,_,k,k',v,b,c,⟨j,v1,t,f,g,i,rfl⟩,d,e=>⟨j,v1,_,f,g,rS.aMm i d e,rfl⟩
theorem rS.vP:∀{es:List (Value×Value×Nat)} {a:List MapEntry} (i:Nat),rS ρ es a->rS ρ (es.eraseIdx i) (a.eraseIdx i)
 |[],_,i,f=>by grind[rS]
 |(_,_,_)::es,_,0,⟨_,_,t,c,d,b,rfl⟩=>b
 |(_,_,_)::es,_,i+1,⟨e,v1,t,c,d,b,rfl⟩=>⟨e,v1,_,c,d,rS.vP i b,rfl⟩
theorem rS.mod:∀{es:List (Value×Value×Nat)} {b:List MapEntry} (i:Nat) {k k' v a:Value},rS ρ es b->bB ρ k k'->bB ρ v a->
  rS ρ (es.modify i fun e=>(k,v,e.2.2)) (b.modify i fun e=>{e with key:=k',val:=a})
 |[],_,i,k,k',v,a,m,_,_=>by grind[rS]
 |(_,_,_)::es,_,0,k,k',v,a,⟨_,_,t,g,j,c,rfl⟩,d,f=>⟨k',a,t,d,f,c,rfl⟩
 |(_,_,_)::es,_,i+1,k,k',v,a,⟨l,v1,t,g,j,c,rfl⟩,d,f=>⟨l,v1,_,g,j,rS.mod i c d f,rfl⟩
theorem Qa {kk k:IntKind} {n:Int}:∀(a:List MapEntry) (i:Nat) {j:Nat} {v:Value},Instr.findNow (.int kk) (.int k n) a i=some (some (j,v))->i<=j/\∃e,a[j - i]?=some e/\e.key= .int k n
 |[],i,j,v,h=>by grind[Instr.findNow]
 |e::b,i,j,v,h=>by
  simp[Instr.findNow] at h;split at h;obtain⟨rfl,rfl⟩:=h;refine⟨bb _,e,FW,?_⟩;cases hk:e.key with
  |int j m=>
   grind[Instr.sameNow]
  |_=>grind[Instr.sameNow]
  have⟨h1,e',h2,h3⟩:=Qa b _ h;grind;cases h
variable {ty:TypeId}
theorem w9 (j:fT P B ρ h w) {a:Array TypeId} {k:TypeId} {x d:Value} (g:a[0]?=some t) (i:P.underlying t=some (.map k e)) (n:bB ρ x d) (l:xm h x=some es):
  (Builtin.len_ a ty #[d]).run P w= .ok (goInt es.length) w:=by
 obtain⟨f,b,⟨rfl,rfl⟩|⟨r,c,rfl,m⟩⟩:=aBg j n l
 .have:=b.length;simp_all[Builtin.len_,ca]
 .simp[Builtin.len_,g,ca i,xI m,b.length]
theorem vq (z:fT P B ρ h w) {m G k k' x u:Value} {E:AH} (K:bB ρ m G) (J:bB ρ k k') (F:bB ρ x u) (d:M5 P h t m k x=some E):
  ∃H,(Instr.mapUpdate t G k' u).run P w= .ok () H/\pT P B ρ h w ρ E H:=by
 unfold M5 at d
 split at d
 .rename_i e r j n p;have⟨key,kk,ht,hkt⟩:=Rz p;split at d
  .cases d
  .split at d
   .rename_i I a y;simp[ba] at d;obtain⟨o,f,rfl⟩:=d;subst J;obtain⟨b,s,v,rfl⟩:=K;obtain⟨M,g,c,l,rfl⟩:=z.uE _ _ y b s v;rw[aP4] at f;split at f
    .rename_i i v0 q;simp[Option.some.injEq] at f;subst f;obtain⟨L,A,O,_,rfl⟩:=tX (w:=w) hkt l q;obtain⟨N,C,v2,_,rfl⟩:=N1 (kk:=kk) I c 0 _ l q;have⟨_,e',he',hek⟩:=Qa c 0 C;have D:(Instr.keyThatStays (.int j n)<|.int j n).run P w= .ok (.int j n) w:=by
      simp[Instr.keyThatStays,Instr.sameBits]
     refine⟨{w with heap:=w.heap.setIfInBounds b (.map ((⟨c⟩:Array MapEntry).modify i fun e=>{e with key:= .int j n,val:=u}) a)},?_,?_⟩
     .simp only[Instr.mapUpdate,c9,ca ht,bj,xI g,pL hkt,A];grind[Result.andThen_ok,Fg]
     .refine E7 z FQ y v (⟨_,rS.mod i l (k':= .int j n) GC F,?_⟩) rfl rfl rfl rfl;grind
    .rename_i q;simp[Option.some.injEq] at f;subst f;have⟨L,A,hr'⟩:=tX (w:=w) hkt l q;subst hr';refine⟨{w with heap:=w.heap.setIfInBounds b (.map ((⟨c⟩:Array MapEntry).push {key:= .int j n,val:=u,born:=a})<|a+1)},?_,?_⟩
     .simp only[Instr.mapUpdate,c9,ca ht,bj,xI g,pL hkt,A,Fg g]
     .refine E7 z FQ y v (⟨_,rS.aMm l (k':= .int j n) GC F,?_⟩) rfl rfl rfl rfl;simp
    .cases f
   .cases d
 .cases d
theorem w5 (o:fT P B ρ h w) {a:Array TypeId} {m C k k':Value} {y:AH} (x:a[0]?=some t) (A:bB ρ m C) (z:bB ρ k k') (c:Nj P h t m k=some y):
  ∃D,(Builtin.delete_ a ty ⟨[C,k']⟩).run P w= .ok (.tuple #[]) D/\pT P B ρ h w ρ y D:=by
 unfold Nj at c
 split at c
 .rename_i e E n f;have⟨key,kk,ht,hkt⟩:=Rz f;cases c;simp[bB] at A z;exact⟨w,by simp_all[Builtin.delete_,ca,pL],pT.refl o⟩
 .rename_i e r E n f;have⟨key,kk,ht,hkt⟩:=Rz f;split at c
  .cases c
  .split at c
   .rename_i G d u;subst z;obtain⟨b,s,p,rfl⟩:=A;obtain⟨H,g,j,l,rfl⟩:=o.uE _ _ u b s p;split at c
    .rename_i i v0 q;simp[Option.some.injEq] at c;subst c;obtain⟨F,v,I,_,rfl⟩:=tX (w:=w) hkt l q;refine⟨{w with heap:=w.heap.setIfInBounds b (.map ((⟨j⟩:Array MapEntry).eraseIdxIfInBounds i) d)},?_,?_⟩
     .simp[Builtin.delete_,x,ca ht,pL hkt,xI g,v,Fg g]
     .refine E7 o FQ u p (⟨_,rS.vP i l,?_⟩) rfl rfl rfl rfl;grind
    .rename_i q;simp[Option.some.injEq] at c;subst c;have⟨F,v,hr'⟩:=tX (w:=w) hkt l q;subst hr';refine⟨{w with heap:=w.heap.setIfInBounds b (.map ⟨j⟩ d)},?_,?_⟩
     .simp[Builtin.delete_,x,ca ht,pL hkt,xI g,v,Fg g]
     .exact E7 o FQ u p ⟨_,l,rfl⟩ rfl rfl rfl rfl
    .cases c
   .cases c
 .cases c
theorem vE.map {α:Type} {f g:α->Value} (b:∀x,bB ρ (f x)<|g x) (a:Array α):vE ρ (a.map f) (a.map g):=by
 grind[nM,Array.toList_map,bP.Oe]
set_option maxHeartbeats 1000000 in
theorem P5 (S:fT P B ρ h w) {N C:Operand->Value} (l:∀x,bB ρ (N x)<|C x) (o:Oper) {v:Value} (g:dP P N h o.op=some v):
  ∃F,(execOp C o).run P w= .ok (.value F) w/\bB ρ v F:=by
 obtain⟨dst,op,ty,pos,after,guard⟩:=o
 simp only at g
 cases op with
 |move x=>simp[dP,Option.some.injEq] at g;subst g;exact⟨_,rfl,l x⟩
 |assign x=>simp[dP,Option.some.injEq] at g;subst g;exact⟨_,rfl,l x⟩
 |pick c a b=>
  simp[dP] at g
  split at g
  .rename_i t r;have m:=l c;rw[r] at m;simp[bB] at m;refine⟨if t then C a else C b,?_,FR⟩;simp[execOp,m,asBool]
  .cases g
 |build t K=>
  obtain⟨F,I,q⟩:=o9 (w:=w) (parts':=K.map fun p=>(p.1,C p.2)) (by
   simp only[CO];exact ny.map (f:=fun p:Nat×Operand=>N p.2) (fun p=>l p.2) _) g
  refine⟨F,?_,q⟩
  show(do pure (Next.value<|<-Instr.build t _):Sem Next).run P w=_
  simp_all
 |load t a=>
  simp[dP] at g
  split at g
  .rename_i a0 J;have m:=l a;rw[J] at m;have⟨F,I,q⟩:=Un S m g;simp_all[execOp]
  .cases g
 |nilCheck x=>
  simp[dP] at g
  split at g
  .rename_i a J;have m:=l x;rw[J] at m;have z:=m;obtain⟨b,s,O,H⟩:=m;simp_all[execOp]
  .rename_i f a b J;have m:=l x;rw[J] at m;have z:=m;obtain⟨_,_,_,rfl,_,_,H⟩:=m;simp_all[execOp]
  .rename_i f a b J;have m:=l x;rw[J] at m;have z:=m;obtain⟨_,_,_,⟨_,_,_,rfl⟩,_,_,H⟩:=m;simp_all[execOp]
  .cases g
 |binOp op t x y yt=>
  have⟨F,I,q⟩:=aEw (w:=w) (l x) (l y) g
  refine⟨F,?_,q⟩
  show(do pure (Next.value<|<-(do eqGuard op t x y _ _;binOp op t _ _)):Sem Next).run P w=_
  rw[c9,I]
  rfl
 |unOp op t x=>
  simp only[dP] at g
  split at g
  .rename_i k n A;have m:=l x;rw[A] at m;simp[bB] at m;simp only[Option.some.injEq] at g;subst g;exact⟨.int k<|k.wrap<|0 - n,by simp[execOp,m,Op.unary,Op.intArith],GC⟩
  .rename_i b A;have m:=l x;rw[A] at m;simp[bB] at m;simp[Option.some.injEq] at g;subst g;exact⟨.bool !b,by simp[execOp,m,Op.unary],GC⟩
  .cases g
 |convert s d x=>
  simp only[dP] at g
  split at g
  .rename_i ds k _ n Z E A;have m:=l x;rw[A] at m;simp only[bB] at m;simp only[Option.some.injEq] at g;subst g;exact⟨.int k<|k.wrap n,by simp[execOp,m,convert,ca Z,ca E,Conv.intToInt],GN⟩
  .cases g
 |makeInterface t x=>
  simp[dP] at g
  split at g
  .cases g
  .rename_i d E U;simp[Option.some.injEq] at g;subst g;refine⟨_,?_,by simp only[bB];exact⟨_,l x,rfl⟩⟩;have:P.concrete t=true:=by
    rw[Program.concrete];rw[U];cases d<;>grind
   simp_all[execOp,run_makeInterface]
  .cases g
 |makeFunc fn first G=>
  simp[dP] at g
  split at g
  .rename_i f;refine⟨.func (.func f) (first.map C)<|G.map C,by simp[execOp,Instr.makeFunc],?_⟩;grind[bB,V7,vE.map]
  .cases g
 |slice t x lo T mx=>
  have⟨F,I,q⟩:=j9 S (l x) (Od.map l lo) (Od.map l T) (Od.map l mx) g
  simp_all[execOp]
 |fieldAddr s x f=>
  simp[dP] at g
  split at g
  .rename_i Y a E A;have m:=l x;rw[A] at m;obtain⟨b,sp,O,H⟩:=m;split at g
   .rename_i fd R;split at g
    .cases g
    .rename_i V;have⟨i,hinf,_⟩:=Wm V;refine⟨.pointer<|some<|Addr.add ⟨b,a.off+sp.2,a.spot⟩ fd.offset,?_,?_⟩
     .simp[execOp,H,Instr.fieldAt,ca E,R,Instr.sureAddr,fieldPlace,kH hinf,V]
     grind[bB,Addr.add]
   .cases g
  .cases g
 |field t x f=>
  simp[dP] at g
  split at g
  .rename_i Y X E A;have m:=l x;rw[A] at m;obtain⟨M,r,H⟩:=m;split at g
   .rename_i fd R;have⟨F,I,q⟩:=Db (w:=w) g<|nM.1 r;exact⟨F,by simp[execOp,H,Instr.field,ca E,R,asAgg,I],q⟩
   .cases g
  .cases g
 |indexAddr t x i=>
  simp[dP] at g
  split at g
  .rename_i n e a k j E A D;have m:=l x;have z:=l i;rw[A] at m;rw[D] at z;simp only[bB] at m z;obtain⟨b,sp,O,H⟩:=m;split at g
   .rename_i r;have⟨inf,hinf⟩:=c7.1 r.2.2;refine⟨.pointer<|some<|Addr.add ⟨b,a.off+sp.2,a.spot⟩<|j.toNat*P.cellsOf e,?_,?_⟩
    .simp[execOp,H,z,Instr.indexAt,asIntOf,ca E,Instr.sureAddr,r.1,r.2.1,kH hinf]
    grind[bB,Addr.add]
   .cases g
  .rename_i e a n c k j E A D;have m:=l x;have z:=l i;rw[A] at m;rw[D] at z;split at g
   .rename_i r;obtain⟨ab,W,L⟩:=a;obtain rfl:L=none:=r.2.2.2;simp only[bB] at m z;obtain⟨b,sp,c',O,_,_,H⟩:=m;have⟨inf,hinf⟩:=c7.1 r.2.2.1;refine⟨.pointer<|some<|Addr.add ⟨b,W+sp.2,none⟩<|j.toNat*P.cellsOf e,?_,?_⟩
    .simp[execOp,H,z,Instr.indexAt,asIntOf,ca E,r.1,r.2.1,kH hinf]
    grind[fD,bB]
   .cases g
  .cases g
 |index t x i=>
  simp[dP] at g
  split at g
  .rename_i n e X k j E A D;have m:=l x;have z:=l i;rw[A] at m;rw[D] at z;simp[bB] at m z;obtain⟨M,Q,H⟩:=m;split at g
   .rename_i r;have⟨inf,hinf⟩:=c7.1 r.2.2;have⟨F,I,q⟩:=Db (w:=w) g<|nM.1 Q;exact⟨F,by simp[execOp,H,z,Instr.index,asIntOf,ca E,r.1,r.2.1,kH hinf,I],q⟩
   .cases g
  .rename_i s k j E A D;have m:=l x;have z:=l i;rw[A] at m;rw[D] at z;simp only[bB] at m z;split at g
   .rename_i r;simp only[ba] at g;obtain⟨u,hu,rfl⟩:=g;exact⟨.int .u8 u.toNat,by simp[execOp,m,z,Instr.index,asIntOf,ca E,r,hu],GN⟩
   .cases g
  .cases g
 |extract t i=>
  simp only[dP] at g
  split at g
  .rename_i vs ht;have m:=l t;rw[ht] at m;obtain⟨α,r,H⟩:=m;have⟨F,hv',q⟩:=(nM.1 r).get g;simp_all[BM,execOp,Instr.extract]
  .cases g
 |lookup t x ix ok=>
  have⟨F,I,q⟩:=vb S (l x) (l ix) g
  simp_all[execOp]
 |_=>simp_all[dP]
theorem Ki (f:Nat->Value):(Array.range 0).map f= #[]:=FR
theorem Dz {size:Nat} (a:z.length=size) (n:Nat):((Array.range<|n*size).map fun i=>(⟨z⟩:FO)[i % (⟨z⟩:FO).size]!)=⟨iP z n⟩:=by
 apply Array.ext';simp only[CO,Array.toList_range];subst a;induction n with
 |zero=>simp[iP]
 |succ n b=>
  rw[AB,List.range_add,l4,b];unfold iP;rw[List.replicate_succ',List.flatten_append];congr 1;apply List.ext_getElem;simp;intro j c d;simp only[List.getElem_map,EC,Function.comp];grind[Nat.mul_comm,Nat.mul_add_mod,Nat.mod_eq_of_lt]
theorem D3 (a:bP ρ z z) (n:Nat):bP ρ (iP z n) (iP z n):=by
 induction n with
 |zero=>exact bP.nil
 |succ n b=>exact a.append b
theorem P3 {O d:Operand->Value} (j:∀x,bB ρ (O x)<|d x) (o:Oper) {b:qU} (a:lJ P O o.op=some (b,f)):
  ∃(o':Obj) (g:Nat->Value),zG P ρ (0,0) b o'/\(execOp d o).run P w= .ok (.value<|g w.heap.size) (w.alloc o')/\∀(ρ':kX) i s,s.2=0->ρ' i=some (w.heap.size,s)->bB ρ' (f i) (g w.heap.size):=by
 obtain⟨dst,op,ty,pos,after,guard⟩:=o
 simp only at a
 cases op with
 |alloc e=>
  simp only[lJ,ba] at a
  obtain⟨z,E,a⟩:=a
  cases a
  have⟨i,zv,hi,_,hzr,hzc,hzl,hzz⟩:=xZ (w:=w) E
  refine⟨_,fun n=> .pointer (some ⟨n,0,none⟩),⟨zv.cells,rfl,?_,?_,fun _=>⟨rfl,rfl,FR⟩⟩,?_,?_⟩
  .grind
  .grind
  .simp[execOp,Instr.alloc,hzr,newVar,newRow]
  grind[bB]
 |box e x=>
  simp only[lJ,ba] at a
  obtain⟨l,m,a⟩:=a
  cases a
  rw[nF] at m
  split at m
  .cases m
  .cases m;have y:=(j x).cells FR;have Q:=y.length;refine⟨.cells (d x).cells e,fun n=> .pointer (some ⟨n,0,none⟩),⟨_,rfl,?_,?_,FR⟩,?_,?_⟩
   .grind
   .grind
   .simp[execOp,Instr.box,newVar,newRow]
   grind[bB]
 |buildSlice t len v=>
  simp only[lJ] at a
  split at a
  .rename_i e A;split at a
   .rename_i z E;have⟨i,zv,hi,_,hzr,hzc,hzl,hzz⟩:=xZ (w:=w) E;split at a
    .simp only[ba] at a;obtain⟨l,m,a⟩:=a;cases a;have⟨r',hr',hrel⟩:=Li _ (v.map fun p=>(p.1,d p.2)).toList _ _ l (by
      simp_all[ny.map,Nat,Operand]) (D3 (hzz ρ) len) m
     have S:=hrel.length
     have N:zv.cells=⟨z⟩:=HQ
     refine⟨_,fun n=> .slice (some ⟨n,0,none⟩) len len,⟨_,rfl,?_,?_,fun _=>⟨rfl,rfl,by show r'.length=l.length;omega⟩⟩,?_,?_⟩
     .grind
     .grind
     .have C:¬len*P.cellsOf e>2^24:=FQ
      show(do pure (Next.value<|<-Instr.buildSlice t len _):Sem Next).run P w=_
      simp only[Instr.buildSlice,c9,ca A,bj,kH hi,C,dx]
      have y:=Dz hzl len
      by_cases G:len*P.cellsOf e=0
      .have D:(⟨iP z len⟩:FO)= #[]:=by rw[<-y,G,Ki]
       rw[D] at hr'
       simp only[G,eD,c9,kd,bj]
       rw[Ki,hr']
       simp[newRow]
      .simp_all[newRow]
     .intro ρ' i s K J;exact⟨_,_,_,J,bb _,FQ,by rw[K]⟩
    .cases a
   .cases a
  .cases a
 |makeSlice t l c=>
  simp only[lJ] at a
  split at a
  .rename_i e W F X cc A m y;split at a
   .rename_i z E;have⟨i,zv,hi,_,hzr,hzc,hzl,hzz⟩:=xZ (w:=w) E;split at a
    .obtain⟨rfl,rfl⟩:=a;have u:=j l;have q:=j c;rw[m] at u;rw[y] at q;simp[bB] at u q;have N:zv.cells=⟨z⟩:=HQ
     have V:i.bytes=P.bytesOf e:=by simp[Program.bytesOf,hi]
     refine⟨.cells ⟨iP z cc.toNat⟩ e,fun n=> .slice (some ⟨n,0,none⟩) F.toNat cc.toNat,⟨_,rfl,?_,?_,FR⟩,?_,?_⟩
     .simp_all[fm,bb,D3]
     .grind
     .have M:IntKind.i64.wrap F=F:=ED _ FQ;have L:IntKind.i64.wrap cc=cc:=ED _ FQ;have t1:(typeInfo e).run P w= .ok i w:=by simp[typeInfo,hi]
      have I:((decide (cc<0)||decide ((i.bytes:Int)*cc>2^48))||decide (F<0)||decide (F>cc))=false:=by
       grind
      simp only[execOp,u,q,Instr.makeSlice,c9,ca A,bj,asInt,asIntOf,kd,t1,M,L,I,aO,dx,run_askRoom,kH hi]
      have R:=Dz hzl cc.toNat
      by_cases G:cc.toNat*P.cellsOf e=0
      .simp_all[Ki,newRow]
      .simp_all[newRow]
     .intro ρ' i s K J;exact⟨_,_,_,J,bb _,FQ,by rw[K]⟩
    .cases a
   .cases a
  .cases a
 |makeMap t r=>
  cases r with
  |none=>
   obtain⟨rfl,rfl⟩:=a
   refine⟨_,fun n=> .map _,⟨[],rfl,rfl⟩,rfl,?_⟩
   grind[bB]
  |some x=>
   simp[lJ] at a
   split at a
   .rename_i U elem k n A T;obtain⟨rfl,rfl⟩:=a;have H:=j x;rw[T] at H;simp[bB] at H;refine⟨_,fun n=> .map (some n),⟨[],rfl,rfl⟩,by simp[execOp,Instr.makeMap,H,ca A,asInt,asIntOf],?_⟩;grind[bB]
   .cases a
 |_=>grind[lJ]
end Go.Ab
