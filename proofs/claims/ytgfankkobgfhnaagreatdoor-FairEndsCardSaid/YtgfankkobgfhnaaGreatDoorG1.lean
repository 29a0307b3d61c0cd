/- A part of the proof. -/
import Derived.WalkKit
import Derived.AtR
import Derived.ChangeKeysEq
set_option linter.all false
namespace Go
theorem FA{p:Prop}(h:p:=by omega):p:=h
theorem FB{p:Prop}(h:p:=by grind):p:=h
theorem FC{p:Prop}(h:p:=by decide):p:=h
theorem FD{p:Prop}(h:p:=by kernel_rfl):p:=h
theorem FF{p:Prop}(h:p:=by simp):p:=h
theorem FG{p:Prop}(h:p:=by simp;omega):p:=h
theorem FH{p:Prop}(h:p:=by cases h):p:=h
theorem FI{p:Prop}(h:p:=by have:=hC.1;omega):p:=h
theorem FJ{p:Prop}(h:p:=by grind[aR]):p:=h
theorem FK{p:Prop}(h:p:=by simp[aR]):p:=h
theorem FL{p:Prop}(h:p:=by show s.at'+1<=_;omega):p:=h
theorem FM{p:Prop}(h:p:=by show some (Value.int .i64<|wr _)=_;rw[za h]):p:=h
theorem FN{p:Prop}(h:p:=by dsimp only;omega):p:=h
theorem FO{p:Prop}(h:p:=by simp[gV] at h):p:=h
theorem FP{p:Prop}(h:p:=by show -9223372036854775808<=s.at'+1/\s.at'+1<=_;omega):p:=h
theorem FQ{p:Prop}(h:p:=by simp only[sW];rw[aac];simp):p:=h
theorem FR{p:Prop}(h:p:=by unfold KK;omega):p:=h
theorem FU{p:Prop}(h:p:=by simp[Builtin.firstCells,loadCells,loadCellsFrom]):p:=h
theorem FV{p:Prop}(h:p:=by grind[bQ.kG]):p:=h
theorem FW{p:Prop}(h:p:=by have:=st.nx;omega):p:=h
theorem FX{p:Prop}(h:p:=by simp[vO,oB,c]):p:=h
theorem FY{p:Prop}(h:p:=by simp[eJ.Ro] at h):p:=h
theorem FZ{p:Prop}(h:p:=by show min (4*C.aB.toNat) _=4*C.aB.toNat;omega):p:=h
theorem Fi{p:Prop}(h:p:=by simp_all[O7,tV]):p:=h
theorem GA{p:Prop}(h:p:=by unfold cU;omega):p:=h
theorem GB{p:Prop}(h:p:=by simp only[aR] at k ⊢;obtain⟨b,s,d,c⟩:=k;exact⟨b,s,h _ _ d,c⟩):p:=h
theorem GC{p:Prop}(h:p:=by simp[aR] at k ⊢;obtain⟨a,n,c⟩:=k;exact⟨a,sG.mono h e a n,c⟩):p:=h
theorem GD{p:Prop}(h:p:=by cases b<;>simp_all [uG]):p:=h
theorem GF{p:Prop}(h:p:=by rw[e];rfl):p:=h
theorem GG{p:Prop}(h:p:=by rw[PK];omega):p:=h
theorem GH{p:Prop}(h:p:=by simpa using b):p:=h
theorem GI{p:Prop}(h:p:=by simpa using a):p:=h
theorem GJ{p:Prop}(h:p:=by unfold bP.kK;rw[show(r.qL n).dS=r.dS from rfl,e];rfl):p:=h
theorem GK{p:Prop}(h:p:=by simp_all):p:=h
theorem GL{p:Prop}(h:p:=by simp_all[Jd]):p:=h
theorem GM{p:Prop}(h:p:=by unfold bQ.kG;omega):p:=h
theorem GN{p:Prop}(h:p:=by cases(M.aU c).dP<;>decide):p:=h
theorem GO{p:Prop}(h:p:=by simp[Rows.fairEndsRow]):p:=h
theorem GP{p:Prop}(h:p:=by grind[List.length_filter_le,List.range,Mon.fO]):p:=h
theorem GQ{p:Prop}(h:p:=by simp only[aR];simp[gV] at h;exact⟨a,U1 a h,rfl⟩):p:=h
theorem GR{p:Prop}(h:p:=by unfold bP.yU;rw[bA0];show ¬r.kV=true;rw[v];simp):p:=h
theorem GS{p:Prop}(h:p:=by show(7:Int)≠9/\(7:Int)≠1/\(7:Int)≠2;decide):p:=h
theorem GU{p:Prop}(h:p:=by rw[<-q];rfl):p:=h
theorem GV{p:Prop}(h:p:=by simp only[BL,ew]):p:=h
theorem GW{p:Prop}(h:p:=by unfold jG;rw[p7]):p:=h
theorem GX{p:Prop}(h:p:=by simp[vW] at h):p:=h
theorem GY{p:Prop}(h:p:=by unfold aG.Cr;rw[aaa]):p:=h
theorem GZ{p:Prop}(h:p:=by unfold PK;omega):p:=h
theorem HA{p:Prop}(h:p:=by rw[b];rfl):p:=h
theorem HB{p:Prop}(h:p:=by simpa using e):p:=h
theorem HC{p:Prop}(h:p:=by rw[l4];omega):p:=h
theorem HD{p:Prop}(h:p:=by simp only[aR]):p:=h
theorem HE{p:Prop}(h:p:=by simp[bQ.enc,jF]):p:=h
theorem HF{p:Prop}(h:p:=by have:=u.2.1;omega):p:=h
theorem HG{p:Prop}(h:p:=by rw[<-hC,bO e]):p:=h
theorem HI{p:Prop}(h:p:=by grind[jM]):p:=h
theorem HJ{p:Prop}(h:p:=by rw[<-w]):p:=h
theorem HK{p:Prop}(h:p:=by unfold Hr;grind):p:=h
theorem HL{p:Prop}(h:p:=by simpa using h):p:=h
theorem HM{p:Prop}(h:p:=by rw[ph2];grind):p:=h
theorem HN{p:Prop}(h:p:=by rfl):p:=h
theorem HO{p:Prop}(h:p:=by simpa using g):p:=h
theorem HQ{p:Prop}(h:p:=by rwa [a.base]):p:=h
theorem HR{p:Prop}(h:p:=by rw[<-hzc]):p:=h
theorem HS{p:Prop}(h:p:=by grind[fP]):p:=h
theorem HT{p:Prop}(h:p:=by simpa using f):p:=h
theorem HU{p:Prop}(h:p:=by rw[<-hC,cQ]):p:=h
theorem HV{p:Prop}(h:p:=by cases b):p:=h
theorem HW{p:Prop}(h:p:=by grind[lK]):p:=h
theorem HX{p:Prop}(h:p:=by simp only[aR];exact⟨_,by simp only[sG];exact hrel,rfl⟩):p:=h
theorem HY{p:Prop}(h:p:=by rw[f.iT _ FA] at u;cases u):p:=h
theorem HZ{p:Prop}(h:p:=by rw[kG,cM FA,p9]):p:=h
end Go
namespace Go
abbrev aL:=@Int.eq_ofNat_of_zero_le
abbrev aM:=@Int.toNat_natCast
abbrev aO:=@Bool.false_eq_true
abbrev aP:=@List.getD_eq_getElem?_getD
abbrev aV:=@List.mem_singleton
abbrev aW:=@Decidable.not_not
abbrev bj:=@List.getElem?_eq_getElem
abbrev b0:=@Nat.le_refl
abbrev ca:=@List.mem_cons_of_mem
abbrev cb:=@Go.Result.andThen_ok
abbrev cg:=@Option.map_eq_some_iff
abbrev cj:=@List.mem_append
abbrev cr:=@Go.run_underlying
abbrev cL:=@decide_eq_true
abbrev cM:=@decide_eq_false
abbrev cO:=@Nat.le_trans
abbrev cP:=@of_decide_eq_true
abbrev cV:=@List.length_append
abbrev c7:=@Option.isSome_iff_exists
abbrev c8:=@Go.Sem.run_bind
abbrev c9:=@List.mem_cons_self
abbrev dd:=@if_false
abbrev dn:=@Option.isSome_none
abbrev dx:=@List.range_succ
abbrev ef:=@List.append_assoc
abbrev eg:=@List.drop_of_length_le
abbrev eh:=@List.getElem?_eq_some_iff
abbrev ep:=@Bool.and_eq_true
abbrev ew:=@if_true
abbrev eD:=@List.mem_cons
abbrev eV:=@List.mem_map
abbrev e6:=@List.take_of_length_le
abbrev e7:=@List.cons_append
abbrev gg:=@Classical.byContradiction
abbrev gk:=@List.nil_append
abbrev g6:=@List.eq_nil_of_length_eq_zero
abbrev g7:=@List.append_nil
abbrev hK:=@List.length_cons
abbrev hT:=@Go.Sem.run_pure
abbrev hX:=@List.mem_of_getElem?
abbrev hY:=@Array.getElem?_eq_some_iff
abbrev js:=@List.length_map
abbrev kd:=@List.map_cons
abbrev km:=@List.getElem?_map
abbrev kt:=@List.map_append
abbrev l4:=@List.length_take
abbrev l5:=@List.drop_zero
abbrev l6:=@congrArg
abbrev l7:=@Nat.lt_of_lt_of_le
abbrev l9:=@List.flatMap_append
abbrev mn:=@List.drop_eq_getElem_cons
abbrev m0:=@List.countP_cons
abbrev m4:=@Nat.ble_eq_true_of_le
abbrev m6:=@Nat.zero_le
abbrev og:=@Nat.mul_le_mul_right
abbrev oH:=@List.length_drop
abbrev oV:=@List.getElem?_range
abbrev oX:=@List.getElem?_append_right
abbrev o0:=@Nat.le_of_ble_eq_true
abbrev o4:=@Nat.le_succ
abbrev p4:=@Option.getD_some
abbrev p7:=@List.length_set
abbrev p9:=@Bool.and_false
abbrev ql:=@Nat.lt_or_ge
abbrev qv:=@List.length_filter_le
abbrev q5:=@List.getElem?_append_left
abbrev q6:=@List.ext_getElem?
abbrev ri:=@Nat.eq_of_beq_eq_true
abbrev rk:=@Option.map_some
abbrev r5:=@List.getElem?_cons_zero
abbrev sl:=@List.drop_drop
abbrev sr:=@Bool.false_and
abbrev ss:=@List.all_eq_true
abbrev sz:=@List.map_congr_left
abbrev ta:=@List.take_append_drop
abbrev tb:=@List.length_singleton
abbrev ts:=@Nat.le_succ_of_le
abbrev ux:=@Nat.succ_mul
abbrev u3:=@List.countP_append
abbrev u4:=@Option.bind_some
abbrev v7:=@List.getElem_mem
abbrev x0:=@List.take_append_of_le_length
abbrev y0:=@decide_eq_true_eq
abbrev z1:=@List.getElem?_eq_none
abbrev z2:=@List.mem_range
abbrev AA:=@Option.isNone_none
abbrev AB:=@Nat.zero_add
abbrev AD:=@List.flatMap_cons
abbrev AE:=@List.take_add_one
abbrev AF:=@Nat.le_of_eq
abbrev AG:=@List.countP_pos_iff
abbrev AI:=@List.countP_eq_zero
abbrev AJ:=@List.filter_append
abbrev AK:=@Bool.true_and
abbrev AL:=@List.drop_append_of_le_length
abbrev AN:=@Bool.not_eq_true'
abbrev AO:=@List.getElem?_cons_succ
abbrev AP:=@List.filter_cons_of_neg
abbrev AQ:=@List.length_nil
abbrev AR:=@List.replicate_succ
abbrev AS:=@List.filter_eq_self
abbrev AT:=@List.drop_eq_nil_of_le
abbrev AU:=@List.flatMap_singleton
abbrev AV:=@Nat.div_eq_of_lt
abbrev AW:=@decide_eq_decide
abbrev AX:=@Nat.mod_lt
abbrev AY:=@Nat.eq_zero_or_pos
abbrev AZ:=@Option.isNone_some
abbrev BA:=@Array.getElem?_toList
abbrev BB:=@List.mem_filter
abbrev BC:=@Nat.mul_add_div
abbrev BD:=@Int.emod_nonneg
abbrev BE:=@Nat.add_zero
abbrev BF:=@Nat.sub_self
abbrev BG:=@List.flatten_cons
abbrev BH:=@Nat.add_le_add_right
abbrev BI:=@List.getElem?_take_of_lt
abbrev BJ:=@Array.length_toList
abbrev BK:=@List.take_succ_cons
abbrev BL:=@Nat.lt_succ_self
abbrev BM:=@decide_eq_false_iff_not
abbrev BN:=@Array.toList_map
abbrev BO:=@List.take_length
abbrev BP:=@Option.bind_eq_some_iff
abbrev BQ:=@List.Perm.refl
abbrev BR:=@List.filter_cons_of_pos
abbrev BS:=@Int.le_refl
abbrev BT:=@List.map_map
abbrev BU:=@List.pairwise_cons
abbrev BV:=@List.getElem?_drop
abbrev BW:=@Int.emod_lt_of_pos
abbrev BX:=@Nat.lt_of_le_of_lt
abbrev BY:=@List.filter_eq_nil_iff
abbrev BZ:=@Bool.or_eq_true
abbrev CA:=@List.foldl_cons
abbrev CB:=@List.nodup_cons
abbrev CC:=@List.sum_append
abbrev CD:=@Bool.not_true
abbrev CE:=@Go.DataW.trod_struct
abbrev CF:=@List.getElem?_set
abbrev CG:=@List.eraseIdx_of_length_le
abbrev CH:=@Go.step_lone_go
abbrev CI:=@Go.GStep.bare_after
abbrev CJ:=@Array.getElem?_push
abbrev CK:=@List.drop_succ_cons
abbrev CM:=@Int.toNat_of_nonneg
abbrev CN:=@Nat.add_le_add_left
abbrev CO:=@of_decide_eq_false
abbrev CP:=@Array.getElem?_setIfInBounds_self
abbrev CQ:=@List.take_succ_eq_append_getElem
abbrev CR:=@List.drop_take
abbrev CS:=@List.foldl_append
abbrev CT:=@List.map_nil
abbrev CU:=@List.any_eq_false
abbrev CV:=@List.filter_congr
abbrev CW:=@List.getElem?_toArray
abbrev CX:=@List.take_append
abbrev CY:=@Go.Frame.finish_atR
abbrev CZ:=@List.drop_append
abbrev DA:=@List.perm_middle
abbrev DB:=@List.filter_cons
abbrev DC:=@Bool.and_true
abbrev DD:=@Nat.add_assoc
abbrev DE:=@Nat.lt_irrefl
abbrev DF:=@List.getElem?_of_mem
abbrev DG:=@List.mem_append_left
abbrev DH:=@List.find?_eq_some_iff_append
abbrev DI:=@and_self
abbrev DJ:=@List.reverse_reverse
abbrev DK:=@List.mem_of_mem_drop
abbrev DL:=@List.all_append
abbrev DM:=@Int.natCast_mul
abbrev DN:=@Array.toList_append
abbrev DO:=@List.length_pos_iff
abbrev DP:=@Nat.zero_mul
abbrev DQ:=@Nat.add_comm
abbrev DS:=@Array.toList_setIfInBounds
abbrev DT:=@Option.isSome_some
abbrev DU:=@List.getElem_range
abbrev DV:=@Go.Steps.refl
abbrev DW:=@List.nodup_nil
abbrev DX:=@List.find?_eq_none
abbrev DY:=@Nat.pos_of_ne_zero
abbrev DZ:=@Nat.add_mul
abbrev D0:=@Go.Sem.runT_eq
abbrev EA:=@Nat.lt_succ_of_lt
abbrev EB:=@List.reverse_cons
abbrev EC:=@List.nodup_append
abbrev ED:=@Go.Oper.semAt_eq
abbrev EE:=@List.all_cons
abbrev EF:=@List.sum_cons
abbrev EG:=@List.mem_flatMap
abbrev EH:=@Go.DataW.trod_slice
abbrev EI:=@List.any_eq_true
abbrev EJ:=@List.flatMap_nil
abbrev EK:=@Nat.le_add_right
abbrev EL:=@Nat.sub_zero
abbrev EM:=@Nat.div_add_mod
abbrev EN:=@List.filter_nil
abbrev EO:=@Bool.not_false
abbrev EP:=@Nat.mul_one
abbrev ER:=@Nat.add_le_add
abbrev ES:=@Array.ext'
abbrev ET:=@Nat.not_lt
abbrev EU:=List Value
abbrev IJ:=List EU
abbrev IN:=Option EU
abbrev EV:=List Int
abbrev EW:=List Nat
abbrev IT:=Option EW
abbrev EX:=Option Addr
abbrev EY:=Option Value
abbrev EZ:=Array Value
end Go
open Go
variable {i j:Nat}
namespace Go.Ab
def bA0.{u} {c:Prop} {_:Decidable c} (n:¬c) {α:Sort u} {t e:α}:ite c t e=e:=if_neg n
def aaa.{u} {c:Prop} {_:Decidable c} {α:Sort u} {t e:α}(n:¬c:=by omega):ite c t e=e:=if_neg n
def bA1.{u} {c:Prop} {_:Decidable c} (n:c) {α:Sort u} {t e:α}:ite c t e=t:=if_pos n
def aac.{u} {c:Prop} {_:Decidable c} {α:Sort u} {t e:α}(n:c:=by omega):ite c t e=t:=if_pos n
variable {α:Type}
noncomputable section
def top:Value:= .chan none
def Fp:Value->Bool
 |.chan _=>true
 |_=>false
def gM:Value->Bool
 |.agg _|.tuple _|.chan _=>false
 |_=>true
mutual
def gV:Value->Bool
 |.bool _|.int _ _|.string _|.pointer none|.slice none _ _|.map none|.nilFunc|.nilIface=>true
 |.iface _ v=>gV v
 |.agg a=>B9 a
 |.tuple a=>B9 a
 |_=>false
def B9:EZ->Bool
 |⟨l⟩=>uO l
def uO:EU->Bool
 |[]=>true
 |v::l=>gV v&&uO l
end
abbrev nL:=Nat->Option (Nat×(Nat×Nat))
def Lj (ρ:nL):Fn->Fn->Prop
 |.yield l,g=>∃b s,ρ l=some (b,s)/\g= .yield b
 |f,g=>g=f
mutual
def aR (ρ:nL):Value->Value->Prop
 |.bool b,d=>d= .bool b
 |.int k n,d=>d= .int k n
 |.float k n,d=>d= .float k n
 |.complex k n m,d=>d= .complex k n m
 |.string s,d=>d= .string s
 |.pointer none,d=>d= .pointer none
 |.pointer (some a),d=>∃b s,ρ a.block=some (b,s)/\d= .pointer (some ⟨b,a.off+s.2,a.spot⟩)
 |.slice none l c,d=>d= .slice none l c
 |.slice (some ⟨i,o,some x⟩) l c,d=>l=0/\c=0/\∃q f,(x=1->f=0)/\(x=2->∃b s,ρ i=some (b,s)/\f<=s.1/\(0<f->q=⟨b,o+s.2,none⟩))/\d= .slice (some q) 0 f
 |.slice (some ⟨i,o,none⟩) l c,d=>∃b s f,ρ i=some (b,s)/\c<=f/\f<=c+s.1/\d= .slice (some ⟨b,o+s.2,none⟩) l f
 |.map none,d=>d= .map none
 |.map (some r),d=>∃b s,ρ r=some (b,s)/\d= .map (some b)
 |.chan none,_=>True
 |.chan (some _),_=>False
 |.func y z g,d=>∃j p e,Lj ρ y j/\sG ρ z p/\sG ρ g e/\d= .func j p e
 |.nilFunc,d=>d= .nilFunc
 |.iface t v,d=>∃u,aR ρ v u/\d= .iface t u
 |.nilIface,d=>d= .nilIface
 |.agg g,d=>∃e,sG ρ g e/\d= .agg e
 |.tuple g,d=>∃e,sG ρ g e/\d= .tuple e
def sG (ρ:nL):EZ->EZ->Prop
 |⟨l⟩,a=>bV ρ l a.toList
def bV (ρ:nL):EU->EU->Prop
 |[],a=>a=[]
 |v::l,a=>∃c b,aR ρ v c/\bV ρ l b/\a=c::b
end
inductive vQ where
 |cells (c:EU) (elem:TypeId) (fz:Nat×Nat) (exact:Bool)
 |loop (st:LoopState) (pending:Option Code) (fn:FuncId) (tmps:EU) (params:Array Tmp) (assign body:Code) (defers:Nat)
 |A1 (aL0:Bool)
 |map (es:List (Value×Value×Nat)) (clock:Nat)
 |mapIter (m:Option Nat) (since:Nat) (seen:EW) (last:Nat)
 |aAh (s:ByteArray) (pos:Nat)
abbrev II:=Option vQ
inductive Tr (α:Type) where
 |lf
 |nd (v:α) (l r:Tr α)
noncomputable def Tr.get {α:Type} (d:α) (t:Tr α):Nat->α:=
 Tr.rec (motive:=fun _=>Nat->α) (fun _=>d) (fun v _ _ gl gr n=>Nat.rec (motive:=fun _=>α) v (fun m _=>Nat.rec (motive:=fun _=>α) (gl<|Nat.div m 2) (fun _ _=>gr<|Nat.div m 2)<|Nat.mod m 2) n) t
noncomputable def Tr.xf {α:Type} (d:α) (f:Nat):Nat->α->Tr α:=
 Nat.rec (motive:=fun _=>Nat->α->Tr α) (fun _ _=> .lf) (fun _ a n o=>Nat.rec (motive:=fun _=>Tr α) (.nd o .lf .lf) (fun m _=>Nat.rec (motive:=fun _=>Tr α) (.nd d (a (Nat.div m 2) o) .lf) (fun _ _=> .nd d .lf (a (Nat.div m 2) o))<|Nat.mod m 2) n) f
noncomputable def Tr.set {α:Type} (d:α) (t:Tr α):Nat->α->Tr α:=
 Tr.rec (motive:=fun _=>Nat->α->Tr α) (fun n o=>Tr.xf d (n+1) n o)
  (fun v l r a b n o=>Nat.rec (motive:=fun _=>Tr α) (.nd o l r) (fun m _=>Nat.rec (motive:=fun _=>Tr α) (.nd v (a (Nat.div m 2) o) r) (fun _ _=> .nd v l (b (Nat.div m 2) o))<|Nat.mod m 2) n) t
def cn {β:Type} (n:Nat) (a b:β):Nat.rec (motive:=fun _=>β) a (fun _ _=>b) (Nat.mod n 2)=if n % 2=0 then a else b:=by
 show Nat.rec (motive:=fun _=>β) a _ (n % 2)=_;cases n % 2<;>rfl
def Tr.Zt (d:α) (n:Nat):(Tr.lf:Tr α).get d n=d:=rfl
def Tr.W1 (d v:α) (l r:Tr α):(Tr.nd v l r).get d 0=v:=rfl
def Tr.Pv (d v:α) (l r:Tr α) (n:Nat):(Tr.nd v l r).get d (n+1)=if n % 2=0 then l.get d (n/2) else r.get d (n/2):=cn _ _ _
def Tr.aR4 (d:α) (f:Nat) (o:α):Tr.xf d (f+1) 0 o= .nd o .lf .lf:=rfl
def Tr.aR2 (d:α) (f n:Nat) (o:α):Tr.xf d (f+1) (n+1) o=if n % 2=0 then .nd d (Tr.xf d f (n/2) o) .lf else .nd d .lf (Tr.xf d f (n/2) o):=cn _ _ _
def Tr.aS8 (d:α) (n:Nat) (o:α):(Tr.lf:Tr α).set d n o=Tr.xf d (n+1) n o:=rfl
def Tr.aUo (d v:α) (l r:Tr α) (o:α):(Tr.nd v l r).set d 0 o= .nd o l r:=rfl
def Tr.aWl (d v:α) (l r:Tr α) (n:Nat) (o:α):(Tr.nd v l r).set d (n+1) o=if n % 2=0 then .nd v (l.set d (n/2) o) r else .nd v l (r.set d (n/2) o):=cn _ _ _
theorem Tr.oa {α:Type} (d:α):∀(f n m:Nat) (o:α),n<f->(Tr.xf d f n o).get d m=if m=n then o else d
 |0,n,_,_,h=>FA
 |f+1,0,m,o,_=>by
  rw[Tr.aR4];cases m with
  |zero=>simp[Tr.W1]
  |succ m=>simp[Tr.Pv,Tr.Zt]
 |f+1,n+1,m,o,h=>by
  have c:=fun m=>Tr.oa d f (n/2) m o FA;rw[Tr.aR2];by_cases b:n % 2=0;rw[bA1 b];cases m with
  |zero=>simp[Tr.W1]
  |succ m=>
   rw[Tr.Pv];by_cases a:m % 2=0;grind;rw[bA0 a,Tr.Zt];grind
  rw[bA0 b];cases m with
  |zero=>simp[Tr.W1]
  |succ m=>
   rw[Tr.Pv];by_cases a:m % 2=0;rw[bA1 a,Tr.Zt];grind;grind
theorem Tr.oF {α:Type} (d:α):∀(t:Tr α) (n m:Nat) (o:α),(t.set d n o).get d m=if m=n then o else t.get d m
 |.lf,n,m,o=>by rw[Tr.Zt,Tr.aS8];simp_all[Tr.oa,BL]
 |.nd v l r,0,m,o=>by
  rw[Tr.aUo];cases m with
  |zero=>simp[Tr.W1]
  |succ m=>simp[Tr.Pv]
 |.nd v l r,n+1,m,o=>by
  rw[Tr.aWl];by_cases b:n % 2=0;rw[bA1 b];cases m with
  |zero=>simp[Tr.W1]
  |succ m=>
   rw[Tr.Pv,Tr.Pv];by_cases a:m % 2=0;rw[bA1 a,bA1 a,Tr.oF d l];grind;grind
  rw[bA0 b];cases m with
  |zero=>simp[Tr.W1]
  |succ m=>
   rw[Tr.Pv,Tr.Pv];by_cases a:m % 2=0;grind;rw[bA0 a,bA0 a,Tr.oF d r];grind
structure AH where
 base:Nat
 next:Nat
 old:Nat->II
 kD:Tr (II)
abbrev IQ:=Option AH
def AH.get (h:AH) (i:Nat):II:=AH.rec (motive:=fun _=>II) (fun a _ b kD=>Bool.rec (motive:=fun _=>II) (kD.get none<|Nat.sub i a) (b i)<|Nat.blt i a) h
def AH.set (h:AH) (i:Nat) (o:II):AH:=AH.rec (motive:=fun _=>AH) (fun a next b kD=>Bool.rec (motive:=fun _=>AH) ⟨a,next,b,kD.set none (Nat.sub i a) o⟩ ⟨a,next,b,kD⟩<|Nat.blt i a) h
def AH.alloc (h:AH) (o:vQ):AH:=AH.rec (motive:=fun _=>AH) (fun a next b kD=>⟨a,Nat.succ next,b,kD.set none (Nat.sub next a)<|some o⟩) h
theorem AH.O6 (h:AH) (i:Nat):h.get i=if i<h.base then h.old i else h.kD.get none (i - h.base):=by
 obtain⟨a,next,b,kD⟩:=h;simp only[AH.get];cases hb:Nat.blt i a with
 |true=>simp_all
 |false=>rw[bA0<|by grind[Nat.blt_eq]];rfl
theorem AH.uv (h:AH) (i:Nat) (o:II):h.set i o=if i<h.base then h else {h with kD:=h.kD.set none (i - h.base) o}:=by
 obtain⟨a,next,b,kD⟩:=h;simp only[AH.set];cases hb:Nat.blt i a with
 |true=>simp_all
 |false=>rw[bA0<|by grind[Nat.blt_eq]];rfl
def AH.alloc_eq (h:AH) (o:vQ):h.alloc o={h with kD:=h.kD.set none (h.next - h.base)<|some o,next:=h.next+1}:=rfl
theorem AH.oF {h:AH} {o:II} (b:h.base<=i):(h.set i o).get j=if j=i then o else h.get j:=by
 rw[AH.uv,aaa,AH.O6,AH.O6];by_cases a:j<h.base;grind;simp[a,dd,Tr.oF];grind
@[simp] theorem AH.o9 {h:AH} {i:Nat} {o:II}:(h.set i o).base=h.base:=by rw[AH.uv];split<;>rfl
@[simp] theorem AH.aHh {h:AH} {i:Nat} {o:II}:(h.set i o).next=h.next:=by rw[AH.uv];split<;>rfl
@[simp] theorem AH.aSt {h:AH} {o:vQ}:(h.alloc o).base=h.base:=rfl
@[simp] theorem AH.aT6 {h:AH} {o:vQ}:(h.alloc o).next=h.next+1:=rfl
theorem AH.Cu {h:AH} {o:vQ} (hb:h.base<=h.next):(h.alloc o).get j=if j=h.next then some o else h.get j:=by
 rw[AH.alloc_eq,AH.O6,AH.O6];by_cases a:j<h.base;grind;simp[a,dd,Tr.oF];grind
def dU (c:EU) (a:Nat) (xs:EU):EU:=c.take a++xs++c.drop (a+xs.length)
def oB (P:Program) (t:TypeId):Option Bool:=
 (P.underlying t).map fun|.struct _|.array _ _=>true|_=>false
def sH (P:Program) (t:TypeId):IN:=
 ((P.info? t).bind (·.zero)).bind fun z=>
  if gV z&&z.cells.toList.all gM&&z.cells.size==P.cellsOf t then some z.cells.toList else none
def bytesOf (P:Program) (t:TypeId):Nat:=P.bytesOf t
def eE (h:AH) (a:Addr) (n:Nat):IN:=
 if a.spot.isSome then none else
 match h.get a.block with
 |some (.cells c _ _ _)=>if a.off+n<=c.length then some ((c.drop a.off).take n) else none
 |_=>none
def C5 (P:Program) (h:AH) (t:TypeId) (a:Addr):EY:=
 match oB P t with
 |some true=>(eE h a<|P.cellsOf t).map fun l=> .agg ⟨l⟩
 |some false=>
  if a.spot.isSome then none else
  match h.get a.block with
  |some (.cells c _ _ _)=>c[a.off]?
  |_=>none
 |none=>none
def iU (h:AH) (a:Addr) (vs:EU):IQ:=
 if a.spot.isSome||a.block<h.base|| !vs.all gM then none else
 match h.get a.block with
 |some (.cells c e b x)=>if b.2=0/\a.off+vs.length<=c.length then some (h.set a.block<|some<|.cells (dU c a.off vs) e b x) else none
 |_=>none
def nG (v:Value):IN:=if Fp v then none else some v.cells.toList
def ba (P:Program) (h:AH) (t:TypeId) (a:Addr) (v:Value):IQ:=
 match nG v with
 |some b=>if b.length=P.cellsOf t/\(P.info? t).isSome then iU h a b else none
 |none=>none
def iZ (P:Program) (t:TypeId) (cs:EU) (a:Nat):EY:=
 match oB P t with
 |some true=>if a+P.cellsOf t<=cs.length then some (.agg ⟨(cs.drop a).take<|P.cellsOf t⟩) else none
 |some false=>cs[a]?
 |none=>none
def Mq (place:Nat->Option (Nat×Nat)) (cells:EU):List (Nat×Value)->IN
 |[]=>some cells
 |(i,v)::rest=>
  match place i,nG v with
  |some (a,size),some b=>if b.length=size/\a+b.length<=cells.length then Mq place (dU cells a b) rest else none
  |_,_=>none
def Sv (P:Program) (t:TypeId) (a:List (Nat×Value)):EY:=
 match sH P t,P.underlying t with
 |some z,some (.struct b)=>
  if b.all (fun f=>(P.info? f.type).isSome) then(Mq (fun i=>(b[i]?).map fun f=>(f.offset,P.cellsOf f.type)) z a).map fun l=> .agg ⟨l⟩ else none
 |some z,some (.array _ e)=>
  if(P.info? e).isSome then(Mq (fun i=>some (i*P.cellsOf e,P.cellsOf e)) z a).map fun l=> .agg ⟨l⟩ else none
 |_,_=>none
def iE (z:EU) (n:Nat):EU:=(List.replicate n z).flatten
def sW (v:EY) (a:Nat) (most:Nat):Option Nat:=
 match v with
 |none=>some a
 |some (.int _ i)=>if 0<=i/\i<=most then some i.toNat else none
 |some _=>none
def Hw (a:Addr):Value:= .slice (some ⟨a.block,a.off,some 2⟩) 0 0
def zR:Value:= .slice (some ⟨0,0,some 1⟩) 0 0
def aT1:Value:= .slice (some ⟨0,0,some 0⟩) 0 0
def xI (h:AH) (i:Nat):Option Bool:=match h.get i with|some (.cells _ _ _ x)=>some x|_=>none
def Hn (P:Program) (h:AH) (t:TypeId) (x:Value) (g f d:EY):EY:=
 match P.underlying t,x with
 |some (.slice e),.slice none len b=>
  match sW d b b with
  |some m=>match(if f.isNone&&d.isSome then none else sW f len m) with
   |some c=>match sW g 0 c with
    |some l=>if(P.info? e).isSome then some (.slice none (c - l)<|m - l) else none
    |none=>none
   |none=>none
  |none=>none
 |some (.slice e),.slice (some a) len b=>
  match sW d b b with
  |some m=>match(if f.isNone&&d.isSome then none else sW f len m) with
   |some c=>match sW g 0 c with
    |some l=>
     if a.spot.isSome then(if(P.info? e).isSome/\len=0/\b=0 then some (if d.isSome then zR else aT1) else none) else
     if(P.info? e).isSome/\c<=m then
      (if m=l then
       if d.isSome then some zR else
       match xI h a.block with
       |some true=>some zR
       |some false=>some (Hw<|a.add<|l*P.cellsOf e)
       |none=>none
      else some (.slice (some<|a.add<|l*P.cellsOf e) (c - l)<|m - l))
     else none
    |none=>none
   |none=>none
  |none=>none
 |_,_=>none
def rT (P:Program) (eq:TypeId->Value->Value->Option Bool) (xs ys:EU):List Field->Option Bool
 |[]=>some true
 |f::a=>
  if f.name="_" then rT P eq xs ys a else
  match iZ P f.type xs f.offset,iZ P f.type ys f.offset with
  |some x,some y=>match eq f.type x y with
   |some true=>rT P eq xs ys a
   |some false=>some false
   |none=>none
  |_,_=>none
def xM (P:Program) (eq:TypeId->Value->Value->Option Bool) (e:TypeId) (xs ys:EU):EW->Option Bool
 |[]=>some true
 |i::is=>
  match iZ P e xs (i*P.cellsOf e),iZ P e ys (i*P.cellsOf e) with
  |some x,some y=>match eq e x y with
   |some true=>xM P eq e xs ys is
   |some false=>some false
   |none=>none
  |_,_=>none
def Jd (P:Program):Nat->TypeId->Value->Value->Option Bool
 |0,_,_,_=>none
 |d+1,t,x,y=>
  match P.underlying t,x,y with
  |some .bool,.bool a,.bool b=>some (a==b)
  |some (.int _),.int k a,.int i b=>if k=i then some (a==b) else none
  |some .string,.string a,.string b=>some (a==b)
  |some (.pointer _),.pointer none,.pointer b=>some b.isNone
  |some (.pointer _),.pointer<|some _,.pointer none=>some false
  |some (.interface _),.nilIface,.nilIface=>some true
  |some (.interface _),.nilIface,.iface _ _=>some false
  |some (.interface _),.iface _ _,.nilIface=>some false
  |some (.struct g),.agg c,.agg f=>if P.stoodInHeld t then none else rT P (Jd P d) c.toList f.toList g.toList
  |some (.array n e),.agg c,.agg f=>if(P.info? e).isSome then xM P (Jd P d) e c.toList f.toList (List.range n) else none
  |some (.slice _),.slice none _ _,.slice b _ _=>some b.isNone
  |some (.slice _),.slice (some _) _ _,.slice none _ _=>some false
  |some (.map _ _),.map none,.map b=>some b.isNone
  |some (.map _ _),.map<|some _,.map none=>some false
  |some (.func _ _ _),.nilFunc,.nilFunc=>some true
  |some (.func _ _ _),.nilFunc,.func _ _ _=>some false
  |some (.func _ _ _),.func _ _ _,.nilFunc=>some false
  |_,_,_=>none
def E9:Operand->Bool
 |.const _=>true
 |_=>false
def Pk (P:Program) (t:TypeId) (x y:Operand) (a b:Value):Bool:=
 match a,b with
 |.nilIface,.nilIface=>E9 x||E9 y
 |.agg _,.agg _=> !P.eqGuardType P.depth t
 |_,_=>true
def aWa (op:BinOp) (x y:Int):Option Bool:=
 match op with
 |.eql=>some (x==y)
 |.neq=>some (x !=y)
 |.lss=>some (decide<|x<y)
 |.leq=>some (decide<|x<=y)
 |.gtr=>some (decide<|x>y)
 |.geq=>some (decide<|x>=y)
 |_=>none
def Vp (op:BinOp) (k:IntKind) (x y:Int):EY:=
 match op with
 |.add=>some (.int k<|k.wrap<|x+y)
 |.sub=>some (.int k<|k.wrap<|x - y)
 |.mul=>some (.int k<|k.wrap<|x*y)
 |.quo=>if y=0 then none else some (.int k<|k.wrap<|x.tdiv y)
 |.rem=>if y=0 then none else some (.int k<|x.tmod y)
 |.eql|.neq|.lss|.leq|.gtr|.geq=>(aWa op x y).map .bool
 |_=>none
def qp (P:Program) (op:BinOp) (t:TypeId) (x y:Operand) (a b:Value):EY:=
 match a,b with
 |.int k m,.int c n=>if k=c then Vp op k m n else none
 |.string _,.string _=>none
 |a,b=>
  match op with
  |.eql=>if Pk P t x y a b then(Jd P 10000 t a b).map .bool else none
  |.neq=>if Pk P t x y a b then(Jd P 10000 t a b).map fun e=> .bool !e else none
  |_=>none
def kZ (P:Program) (b:Operand->Value):Op->Option (vQ×(Nat->Value))
 |.alloc e=>(sH P e).map fun z=>(.cells z e (0,0) true,fun i=> .pointer (some ⟨i,0,none⟩))
 |.box e x=>(nG<|b x).map fun l=>(.cells l e (0,0) true,fun i=> .pointer (some ⟨i,0,none⟩))
 |.buildSlice t len a=>
  match P.underlying t with
  |some (.slice e)=>
   match sH P e with
   |some z=>
    if len*P.cellsOf e<=2^24 then
     (Mq (fun i=>some (i*P.cellsOf e,P.cellsOf e)) (iE z len)<|a.toList.map fun p=>(p.1,b p.2)).map fun l=>
      (.cells l e (0,0) true,fun i=> .slice (some ⟨i,0,none⟩) len len)
    else none
   |none=>none
  |_=>none
 |.makeSlice t l c=>match P.underlying t,b l,b c with
  |some (.slice e),.int _ l,.int _ c=>
   match sH P e with
   |some z=>
    if 0<=l/\l<=c/\c<=2^40/\P.bytesOf e*c<=2^47 then
     some (.cells (iE z c.toNat) e (0,0) true,fun i=> .slice (some ⟨i,0,none⟩) l.toNat c.toNat)
    else none
   |none=>none
  |_,_,_=>none
 |.makeMap t r=>match r with
  |none=>some (.map [] 0,fun i=> .map (some i))
  |some x=>match P.underlying t,b x with
   |some (.map _ _),.int _ _=>some (.map [] 0,fun i=> .map (some i))
   |_,_=>none
 |_=>none
def Oq (P:Program) (t:TypeId):Option TypeId:=
 match P.underlying t with
 |some (.map a elem)=>match P.underlying a with
  |some (.int _)=>some elem
  |_=>none
 |_=>none
def Dg (k:IntKind) (n:Int):List (Value×Value×Nat)->Nat->Option (Option<|Nat×Value)
 |[],_=>some none
 |(.int j m,v,_)::a,i=>if k=j then(if n=m then some (some (i,v)) else Dg k n a (i+1)) else none
 |_::_,_=>none
def pj (P:Program) (t:TypeId):EY:=((P.info? t).bind (·.zero)).bind fun z=>if gV z then some z else none
def vx (h:AH):Value->Option (List<|Value×Value×Nat)
 |.map none=>some []
 |.map (some r)=>match h.get r with
  |some (.map a _)=>some a
  |_=>none
 |_=>none
def Ed (P:Program) (h:AH) (t:TypeId) (x ix:Value) (ok:Bool):EY:=
 match Oq P t,vx h x,ix with
 |some e,some a,.int k n=>match Dg k n a 0 with
  |some (some (_,v))=>some (if ok then .tuple ⟨[v,.bool true]⟩ else v)
  |some none=>(pj P e).map fun z=>if ok then .tuple ⟨[z,.bool false]⟩ else z
  |none=>none
 |_,_,_=>none
def aNa (k:IntKind) (n:Int) (v:Value) (es:List (Value×Value×Nat)) (a:Nat):II:=
 match Dg k n es 0 with
 |some (some (i,_))=>some (.map (es.modify i fun e=>(.int k n,v,e.2.2)) a)
 |some none=>some (.map (es++[(.int k n,v,a)])<|a+1)
 |none=>none
def Mu (P:Program) (h:AH) (t:TypeId) (m b v:Value):IQ:=
 match Oq P t,m,b with
 |some _,.map<|some r,.int k n=>if r<h.base then none else match h.get r with
  |some (.map c a)=>(aNa k n v c a).map fun o=>h.set r (some o)
  |_=>none
 |_,_,_=>none
def Na (P:Program) (h:AH) (t:TypeId) (m c:Value):IQ:=
 match Oq P t,m,c with
 |some _,.map none,.int _ _=>some h
 |some _,.map<|some r,.int k n=>if r<h.base then none else match h.get r with
  |some (.map b a)=>match Dg k n b 0 with
   |some (some (i,_))=>some (h.set r<|some<|.map (b.eraseIdx i) a)
   |some none=>some (h.set r<|some<|.map b a)
   |none=>none
  |_=>none
 |_,_,_=>none
def dQ (P:Program) (d:Operand->Value) (h:AH):Op->EY
 |.move x=>some (d x)
 |.assign x=>some (d x)
 |.pick c a b=>match d c with
  |.bool t=>some (if t then d a else d b)
  |_=>none
 |.build t j=>Sv P t (j.toList.map fun p=>(p.1,d p.2))
 |.load t a=>match d a with
  |.pointer (some a)=>C5 P h t a
  |_=>none
 |.nilCheck x=>match d x with
  |.pointer (some a)=>some (.pointer<|some a)
  |.func (.func f) a b=>some (.func (.func f) a b)
  |.func (.yield f) a b=>some (.func (.yield f) a b)
  |_=>none
 |.binOp op t x y _=>qp P op t x y (d x) (d y)
 |.unOp op _ x=>match op,d x with
  |.neg,.int k n=>some (.int k<|k.wrap<|0 - n)
  |.not,.bool b=>some (.bool !b)
  |_,_=>none
 |.makeInterface t x=>match P.underlying t with
  |some (.interface _)=>none
  |some _=>some (.iface t<|d x)
  |none=>none
 |.makeFunc o first g=>match o with
  |.func f=>some (.func (.func f) (first.map d)<|g.map d)
  |_=>none
 |.slice t x r q u=>Hn P h t (d x) (r.map d) (q.map d) (u.map d)
 |.fieldAddr s x f=>match P.underlying s,d x with
  |some (.struct m),.pointer (some a)=>match m[f]? with
   |some fd=>if P.cellsOf fd.type=0 then none else some (.pointer<|some<|a.add fd.offset)
   |none=>none
  |_,_=>none
 |.field t x f=>match P.underlying t,d x with
  |some (.struct m),.agg l=>match m[f]? with
   |some fd=>iZ P fd.type l.toList fd.offset
   |none=>none
  |_,_=>none
 |.indexAddr t x i=>match P.underlying t,d x,d i with
  |some (.array n e),.pointer<|some a,.int _ i=>if 0<=i/\i<n/\(P.info? e).isSome then some (.pointer<|some<|a.add<|i.toNat*P.cellsOf e) else none
  |some (.slice e),.slice (some a) n _,.int _ i=>if 0<=i/\i<n/\(P.info? e).isSome/\a.spot=none then some (.pointer<|some<|a.add<|i.toNat*P.cellsOf e) else none
  |_,_,_=>none
 |.index t x i=>match P.underlying t,d x,d i with
  |some (.array n e),.agg l,.int _ i=>if 0<=i/\i<n/\(P.info? e).isSome then iZ P e l.toList (i.toNat*P.cellsOf e) else none
  |_,_,_=>none
 |.extract t i=>match d t with
  |.tuple v=>v.toList[i]?
  |_=>none
 |.lookup t x ix ok=>Ed P h t (d x) (d ix) ok
 |_=>none
inductive aZ2 where
 |G1|alloc|store|call|Jr
 deriving DecidableEq
def fR:Op->aZ2
 |.move _|.assign _|.pick ..|.build ..|.load ..|.nilCheck _|.binOp ..|.unOp ..|.convert ..|.makeInterface ..|.makeFunc ..|.slice ..|.fieldAddr ..
 |.field ..|.indexAddr ..|.index ..|.extract ..|.lookup ..=> .G1
 |.alloc _|.box ..|.buildSlice ..|.makeSlice ..|.makeMap ..=> .alloc
 |.store ..|.mapUpdate ..=> .store
 |.call _=> .call
 |_=> .Jr
def nE (h:AH) (size n:Nat):Value->IN
 |.slice none _ _=>if n=0 then some [] else none
 |.slice (some a) l _=>if n=0 then some [] else if n<=l then eE h a (n*size) else none
 |_=>none
def Gf:Value->Option Nat
 |.slice _ n _=>some n
 |_=>none
def Q9 (P:Program) (a:Array TypeId):Bool:=
 match(a[1]?).bind P.underlying with
 |some (.slice _)=>true
 |_=>false
def Q6 (P:Program) (h:AH) (d:Array TypeId) (s x:Value):Option (Value×AH):=
 match(d[0]?).bind P.underlying,s,Gf x with
 |some (.slice e),.slice g b f,some n=>
  if !Q9 P d then none else
  match sH P e,nE h (P.cellsOf e) n x with
  |some _,some new=>
   if !new.all gM||new.length !=n*P.cellsOf e then none else
   if b+n<=f then
    match g with
    |none=>if n=0 then some (s,h) else none
    |some a=>if n=0 then some (s,h) else if a.spot.isSome then none else
     (iU h (a.add<|b*P.cellsOf e) new).map fun l=>(.slice g (b+n) f,l)
   else if(b+n)*(P.bytesOf e+1)<=2^46 then
    match g with
    |none=>if b=0 then some (.slice (some ⟨h.next,0,none⟩) n n,h.alloc<|.cells new e (0,0) false) else none
    |some a=>
     if a.spot=some 1 then(if b=0 then some (.slice (some ⟨h.next,0,none⟩) n n,h.alloc<|.cells new e (0,0) false) else none) else
     if a.spot=some 2 then
      (match h.get a.block with
      |some (.cells c j k _)=>
       if j=e/\h.base<=a.block/\k=(0,0)/\a.off<=c.length/\b=0/\f=0 then
        some (.slice (some ⟨h.next,0,none⟩) n n,(h.set a.block none).alloc<|.cells new e (0,0) false)
       else none
      |_=>none) else
     match eE h a (b*P.cellsOf e),h.get a.block with
     |some i,some (.cells c j k x)=>
      if !i.all gM then none else
      if x then some (.slice (some ⟨h.next,0,none⟩) (b+n)<|b+n,h.alloc<|.cells (i++new) e (0,0) false)
      else if j=e/\h.base<=a.block/\k=(0,0)/\a.off+f*P.cellsOf e<=c.length then
       some (.slice (some ⟨h.next,0,none⟩) (b+n)<|b+n,(h.set a.block none).alloc<|.cells (i++new) e (0,0) false)
      else none
     |_,_=>none
   else none
  |_,_=>none
 |_,_,_=>none
def kH (P:Program) (h:AH) (b:Builtin) (c:Array TypeId) (args:EU):Option (Value×AH):=
 match b,args with
 |.len,[x]=>match(c[0]?).bind P.underlying,x with
  |some (.array n _),_=>some (.int .i64 n,h)
  |some (.slice _),.slice _ n _=>some (.int .i64 n,h)
  |some (.map _ _),x=>(vx h x).map fun f=>(.int .i64 f.length,h)
  |_,_=>none
 |.append,[s,x]=>Q6 P h c s x
 |.clear,[x]=>match(c[0]?).bind P.underlying,x with
  |some _,.slice none _ _=>some (.tuple #[],h)
  |some (.slice e),.slice (some a) n _=>
   if n=0 then some (.tuple #[],h) else
   match sH P e with
   |some z=>(iU h a<|iE z n).map fun d=>(.tuple #[],d)
   |none=>none
  |_,_=>none
 |.delete,[m,k]=>match c[0]? with
  |some t=>(Na P h t m k).map fun d=>(.tuple #[],d)
  |none=>none
 |.min,[.int k x,.int _ y]=>some (.int k<|if y<x then y else x,h)
 |_,_=>none
end
end Go.Ab
variable {a v:Value} {l l':EU} {P:Program} {s:Nat×Nat} {B:Nat} {w w':World}
namespace Go.Ab
open Go.RowKit
def F1 (ρ ρ':nL):Prop:=∀i x,ρ i=some x->ρ' i=some x
theorem F1.refl (ρ:nL):F1 ρ ρ:=fun _ _ h=>h
def F1.trans {a b c:nL} (h:F1 a b) (k:F1 b c):F1 a c:=fun i x d=>k i x<|h i x d
variable {ρ ρ':nL}
theorem Lj.mono (h:F1 ρ ρ') {f g:Fn} (k:Lj ρ f g):Lj ρ' f g:=by
 cases f<;>simp only[Lj] at k ⊢<;>try exact k
 obtain⟨b,s,a,c⟩:=k;exact⟨b,s,h _ _ a,c⟩
mutual
theorem aR.mono {ρ ρ':nL} (h:F1 ρ ρ'):∀(v o:Value),aR ρ v o->aR ρ' v o
 |.bool _,_,k=>FJ
 |.int _ _,_,k=>FJ
 |.float _ _,_,k=>FJ
 |.complex _ _ _,_,k=>FJ
 |.string _,_,k=>FJ
 |.pointer none,_,k=>FJ
 |.pointer (some _),_,k=>GB
 |.slice none _ _,_,k=>FJ
 |.slice (some ⟨_,_,some _⟩) _ _,_,k=>by
  simp only[aR] at k ⊢;obtain⟨j,l,p,g,m,r,t⟩:=k;exact⟨j,l,p,g,m,fun y=>let⟨b,s,d,c⟩:=r y;⟨b,s,h _ _ d,c⟩,t⟩
 |.slice (some ⟨_,_,none⟩) _ _,_,k=>by simp only[aR] at k ⊢;obtain⟨b,s,g,d,c⟩:=k;exact⟨b,s,g,h _ _ d,c⟩
 |.map none,_,k=>FJ
 |.map (some _),_,k=>GB
 |.chan none,_,_=>FK
 |.chan (some _),_,k=>FJ
 |.func _ q e,_,k=>by
  simp only[aR] at k ⊢;obtain⟨i,f,a,j,l,m,c⟩:=k;exact⟨i,f,a,j.mono h,sG.mono h q f l,sG.mono h e a m,c⟩
 |.nilFunc,_,k=>FJ
 |.iface _ v,_,k=>by simp[aR] at k ⊢;obtain⟨u,x,c⟩:=k;exact⟨u,aR.mono h v u x,c⟩
 |.nilIface,_,k=>FJ
 |.agg e,_,k=>GC
 |.tuple e,_,k=>GC
theorem sG.mono {ρ ρ':nL} (h:F1 ρ ρ'):∀(v b:EZ),sG ρ v b->sG ρ' v b
 |⟨l⟩,a,k=>by simp[sG] at k ⊢;exact bV.mono h l a.toList k
theorem bV.mono {ρ ρ':nL} (h:F1 ρ ρ'):∀(l l':EU),bV ρ l l'->bV ρ' l l'
 |[],_,k=>by grind[bV]
 |v::l,_,k=>by
  simp only[bV] at k ⊢;obtain⟨b,a,c,d,e⟩:=k;exact⟨b,a,aR.mono h v b c,bV.mono h l a d,e⟩
theorem nX {ρ:nL}:∀(v:Value),gV v=true->aR ρ v v
 |.bool _,_=>FK
 |.int _ _,_=>FK
 |.float _ _,h=>FO
 |.complex _ _ _,h=>FO
 |.string _,_=>FK
 |.pointer none,_=>FK
 |.pointer (some _),h=>FO
 |.slice none _ _,_=>FK
 |.slice (some _) _ _,h=>FO
 |.map none,_=>FK
 |.map (some _),h=>FO
 |.chan _,h=>FO
 |.func _ _ _,h=>FO
 |.nilFunc,_=>FK
 |.iface _ v,h=>by simp only[aR];simp[gV] at h;exact⟨v,nX v h,rfl⟩
 |.nilIface,_=>FK
 |.agg a,h=>GQ
 |.tuple a,h=>GQ
theorem U1 {ρ:nL}:∀(v:EZ),B9 v=true->sG ρ v v
 |⟨l⟩,h=>by simp[B9] at h;simp[sG];exact Ah l h
theorem Ah {ρ:nL}:∀(l:EU),uO l=true->bV ρ l l
 |[],_=>by simp[bV]
 |v::l,h=>by
  simp[uO,ep] at h;simp only[bV];exact⟨v,l,nX v h.1,Ah l h.2,rfl⟩
end
theorem nP {a b:EZ}:sG ρ a b↔bV ρ a.toList b.toList:=by cases a;simp[sG]
section lists
theorem bV.nil:bV ρ [] []:=by simp[bV]
theorem bV.cons (h:aR ρ v a) (k:bV ρ l l'):bV ρ (v::l) (a::l'):=by
 grind[bV]
theorem bV.ic:bV ρ (v::l) (a::l')↔aR ρ v a/\bV ρ l l':=by
 grind[bV,bV.cons]
theorem bV.length:∀{l l':EU},bV ρ l l'->l'.length=l.length
 |[],l',h=>by grind[bV]
 |v::l,l',h=>by
  simp only[bV] at h;obtain⟨c,b,_,a,rfl⟩:=h;simp[bV.length a]
theorem bV.get:∀{l l':EU} {i:Nat} {v:Value},bV ρ l l'->l[i]?=some v->∃a,l'[i]?=some a/\aR ρ v a
 |[],l',i,v,h,k=>by simp at k
 |u::l,l',0,v,h,k=>by
  grind[bV]
 |u::l,l',i+1,v,h,k=>by
  simp only[bV] at h;obtain⟨a,c,_,b,rfl⟩:=h;simp at k;simpa using bV.get b k
def bV.po (h:bV ρ l l') (k:l[i]?=none):l'[i]?=none:=by
 rw[List.getElem?_eq_none_iff] at k ⊢;rwa [h.length]
theorem bV.getD (i:Nat) (h:bV ρ l l'):aR ρ (l.getD i undef) (l'.getD i undef):=by
 cases k:l[i]? with
 |none=>
  have a:=h.po k;grind[nX,undef,gV,B9,uO]
 |some v=>
  have⟨v',hv,hr⟩:=h.get k;grind
theorem bV.append:∀{l l' m a:EU},bV ρ l l'->bV ρ m a->bV ρ (l++m) (l'++a)
 |[],l',m,a,h,k=>by grind[bV]
 |v::l,l',m,a,h,k=>by
  simp only[bV] at h;obtain⟨e,d,b,c,rfl⟩:=h;exact bV.cons b<|bV.append c k
theorem bV.take:∀{l l':EU} (n:Nat),bV ρ l l'->bV ρ (l.take n) (l'.take n)
 |_,_,0,_=>by simp[bV.nil]
 |[],l',n+1,h=>by grind[bV,bV.nil]
 |v::l,l',n+1,h=>by
  simp only[bV] at h;obtain⟨d,c,a,b,rfl⟩:=h;exact bV.cons a<|bV.take n b
theorem bV.drop:∀{l l':EU} (n:Nat),bV ρ l l'->bV ρ (l.drop n) (l'.drop n)
 |_,_,0,h=>FB
 |[],l',n+1,h=>by grind[bV,bV.nil]
 |v::l,l',n+1,h=>by
  simp only[bV] at h;obtain⟨d,c,b,a,rfl⟩:=h;exact bV.drop n a
theorem bV.set:∀{l l':EU} (i:Nat) {v a:Value},bV ρ l l'->aR ρ v a->bV ρ (l.set i v) (l'.set i a)
 |[],l',i,v,a,h,k=>by grind[bV,bV.nil]
 |u::l,l',0,v,a,h,k=>by
  grind[bV,bV.cons]
 |u::l,l',i+1,v,a,h,k=>by
  simp only[bV] at h;obtain⟨e,d,b,c,rfl⟩:=h;exact bV.cons b<|bV.set i c k
theorem bV.dU {m a:EU} (i:Nat) (h:bV ρ l l') (k:bV ρ m a):bV ρ (dU l i m) (dU l' i a):=by
 unfold Ab.dU;rw[k.length];exact((h.take i).append k).append (h.drop _)
theorem bV.replicate (n:Nat) (h:aR ρ v a):bV ρ (List.replicate n v) (List.replicate n a):=by
 induction n with
 |zero=>exact bV.nil
 |succ n b=>grind[bV.cons]
theorem bV.N5 {α:Type} {f g:α->Value} (h:∀x,aR ρ (f x)<|g x):∀l:List α,bV ρ (l.map f) (l.map g)
 |[]=>bV.nil
 |x::l=>bV.cons (h x)<|bV.N5 h l
end lists
section fa
def aR.cells {f:Value} (h:aR ρ v f) (m:Fp v=false):bV ρ v.cells.toList f.cells.toList:=by
 cases v with
 |agg p=>simp[aR] at h;obtain⟨j,k,rfl⟩:=h;exact nP.1 k
 |chan r=>simp[Fp] at m
 |pointer a=>
  have d:=h;cases a with
  |none=>simp[aR] at h;subst h;exact bV.cons d bV.nil
  |some a=>simp only[aR] at h;obtain⟨b,s,e,rfl⟩:=h;exact bV.cons d bV.nil
 |slice a l c=>
  have d:=h;cases a with
  |none=>simp[aR] at h;subst h;exact bV.cons d bV.nil
  |some a=>
   obtain⟨i,o,sp⟩:=a;cases sp with
   |none=>simp only[aR] at h;obtain⟨b,s,g,e,_,_,rfl⟩:=h;exact bV.cons d bV.nil
   |some _=>simp only[aR] at h;obtain⟨_,_,n,g,_,_,rfl⟩:=h;exact bV.cons d bV.nil
 |map r=>
  have d:=h;cases r with
  |none=>simp[aR] at h;subst h;exact bV.cons d bV.nil
  |some a=>simp only[aR] at h;obtain⟨b,s,e,rfl⟩:=h;exact bV.cons d bV.nil
 |func q a b=>have d:=h;simp only[aR] at h;obtain⟨_,_,_,_,_,_,rfl⟩:=h;exact bV.cons d bV.nil
 |iface t v=>have d:=h;simp[aR] at h;obtain⟨_,_,rfl⟩:=h;exact bV.cons d bV.nil
 |tuple t=>have d:=h;simp[aR] at h;obtain⟨_,_,rfl⟩:=h;exact bV.cons d bV.nil
 |_=>have d:=h;simp[aR] at h;subst h;exact bV.cons d bV.nil
def aR.Ys {e:Value} (h:aR ρ v e) (hc:gM v=true):e.oneCell'=true:=by
 cases v with
 |agg j=>simp[gM] at hc
 |chan r=>simp[gM] at hc
 |tuple t=>simp[gM] at hc
 |pointer a=>cases a with
  |none=>simp[aR] at h;subst h;rfl
  |some a=>simp only[aR] at h;obtain⟨b,s,d,rfl⟩:=h;rfl
 |slice a l c=>cases a with
  |none=>simp[aR] at h;subst h;rfl
  |some a=>
   obtain⟨i,o,sp⟩:=a
   cases sp with
   |none=>simp only[aR] at h;obtain⟨b,s,f,d,_,_,rfl⟩:=h;rfl
   |some _=>simp only[aR] at h;obtain⟨_,_,g,f,_,_,rfl⟩:=h;rfl
 |map r=>cases r with
  |none=>simp[aR] at h;subst h;rfl
  |some a=>simp only[aR] at h;obtain⟨b,s,d,rfl⟩:=h;rfl
 |func k a b=>simp only[aR] at h;obtain⟨_,_,_,_,_,_,rfl⟩:=h;rfl
 |iface t v=>simp[aR] at h;obtain⟨_,_,rfl⟩:=h;rfl
 |_=>simp[aR] at h;subst h;rfl
end fa
def qW (ρ:nL):List (Value×Value×Nat)->List MapEntry->Prop
 |[],a=>a=[]
 |(k,v,n)::l,a=>∃b c t,aR ρ k b/\aR ρ v c/\qW ρ l t/\a={key:=b,val:=c,born:=n}::t
theorem qW.mono {ρ ρ':nL} (h:F1 ρ ρ'):∀(l:List (Value×Value×Nat)) (es:List MapEntry),qW ρ l es->qW ρ' l es
 |[],_,k=>k
 |(_,_,_)::l,_,⟨e,f,t,a,b,c,d⟩=>⟨e,f,t,aR.mono h _ _ a,aR.mono h _ _ b,qW.mono h l t c,d⟩
def Ca (P:Program) (ρ:nL) (s:Nat×Nat):vQ->Obj->Prop
 |.cells c e n x,o=>∃i:EZ,o= .cells i e n/\bV ρ c ((i.toList.drop s.2).take c.length)/\s.2+c.length+s.1*P.cellsOf e<=i.size/\(x=true->s.1=0/\s.2=0/\i.size=c.length)
 |.loop st nA fn tmps params assign body d,o=>∃a k p,bV ρ tmps a/\ρ d=some (k,p)/\
   o= .loop {state:=st,pending:=nA,fn:=fn,tmps:=⟨a⟩,params:=params,assign:=assign,body:=body,defers:=k}
 |.A1 aL0,o=>o= .deferred (if aL0 then some [] else none)
 |.map l f,o=>∃g,qW ρ l g/\o= .map ⟨g⟩ f
 |.mapIter m since seen last,o=>∃j,(match m with|none=>j=none|some r=>∃b s,ρ r=some (b,s)/\j=some b)/\o= .mapIter j since ⟨seen⟩ last
 |.aAh s pos,o=>o= .stringIter s pos
theorem Ca.mono (h:F1 ρ ρ') {b:vQ} {o:Obj} (k:Ca P ρ s b o):Ca P ρ' s b o:=by
 cases b with
 |cells c e D x=>obtain⟨n,a,f,i⟩:=k;exact⟨n,a,bV.mono h _ _ f,i⟩
 |loop st nA C l params assign j d=>obtain⟨z,q,y,a,f,i⟩:=k;exact⟨z,q,y,bV.mono h _ _ a,h _ _ f,i⟩
 |A1 _=>exact k
 |map A c=>obtain⟨g,a,f⟩:=k;exact⟨g,qW.mono h _ _ a,f⟩
 |mapIter m _ _ _=>
  obtain⟨v,a,f⟩:=k;refine⟨v,?_,f⟩;cases m with
  |none=>exact a
  |some r=>obtain⟨b,s,t,u⟩:=a;exact⟨b,s,h _ _ t,u⟩
 |aAh s p=>exact k
structure gB (P:Program) (B:Nat) (ρ:nL) (h:AH) (w:World):Prop where
 yS:∀i o,h.get i=some o->∀b s,ρ i=some (b,s)->∃o',w.heap[b]?=some o'/\Ca P ρ s o o'
 inj:∀i j b si sj,h.base<=i->h.base<=j->(h.get i).isSome->(h.get j).isSome->ρ i=some (b,si)->ρ j=some (b,sj)->i=j
 low:∀i b s,h.base<=i->(h.get i).isSome->ρ i=some (b,s)->B<=b
 old:∀i b s,i<h.base->ρ i=some (b,s)->b<B
 iT:∀i,h.next<=i->ρ i=none
 lZ:∀i,h.next<=i->h.get i=none
 xS:∀g,g<P.globals.size->ρ g=some (g,(0,0))
 size:B<=w.heap.size
 bn:h.base<=h.next
structure sE (P:Program) (B:Nat) (ρ:nL) (h:AH) (w:World) (ρ':nL) (h':AH) (w':World):Prop where
 ext:F1 ρ ρ'
 inv:gB P B ρ' h' w'
 un:∀i,i<h.next->ρ i=none->ρ' i=none
 sQ:∀i,i<h.next->ρ i=none->h'.get i=h.get i
 stay:∀i,i<h.next->h.get i=none->h'.get i=none
 frame:∀b,b<w.heap.size->(∀i s,h.base<=i->(h.get i).isSome->ρ i≠some (b,s))->w'.heap[b]?=w.heap[b]?
 range:∀i b s,h.base<=i->(h'.get i).isSome->ρ' i=some (b,s)->b<w.heap.size->∃j s',h.base<=j/\(h.get j).isSome/\ρ j=some (b,s')
 base:h'.base=h.base
 C8:∀i,i<h.base->h'.get i=h.get i
 next:h.next<=h'.next
 size:w.heap.size<=w'.heap.size
 os:w'.os=w.os
 out:w'.output=w.output
 tape:w'.tape=w.tape
theorem sE.refl {h:AH} (a:gB P B ρ h w):sE P B ρ h w ρ h w where
 ext:=F1.refl ρ
 inv:=a
 un:=fun _ _ h=>h
 sQ:=FB
 stay:=FB
 frame:=FB
 range:=FB
 base:=rfl
 C8:=fun _ _=>rfl
 next:=b0 _
 size:=b0 _
 os:=rfl
 out:=rfl
 tape:=rfl
theorem sE.trans {ρ1 ρ2:nL} {h o p:AH} {w1 r:World} (a:sE P B ρ h w ρ1 o w1) (b:sE P B ρ1 o w1 ρ2 p r):sE P B ρ h w ρ2 p r where
 ext:=a.ext.trans b.ext
 inv:=b.inv
 un:=fun i c d=>b.un i (l7 c a.next)<|a.un i c d
 sQ:=fun i c d=>(b.sQ i (l7 c a.next)<|a.un i c d).trans<|a.sQ i c d
 stay:=fun i c d=>b.stay i (l7 c a.next)<|a.stay i c d
 frame:=fun x f d=>by
  refine(b.frame x (l7 f a.size) ?_).trans (a.frame x f d);intro i s l n m;rw[a.base] at l;have⟨j,q,e,g,k⟩:=a.range i x s l n m f;grind
 range:=fun i x s l n m f=>by
  obtain⟨j,q,e,g,k⟩:=b.range i x s HQ n m<|l7 f a.size;rw[a.base] at e;exact a.range j x q e g k f
 base:=b.base.trans a.base
 C8:=fun i c=>(b.C8 i HQ).trans<|a.C8 i c
 next:=cO a.next b.next
 size:=cO a.size b.size
 os:=b.os.trans a.os
 out:=b.out.trans a.out
 tape:=b.tape.trans a.tape
def sE.below {h b:AH} (a:gB P B ρ h w) (e:sE P B ρ h w ρ' b w'):Below B w w':=
 ⟨e.os,e.tape,e.out,e.size,fun k f=>e.frame k (l7 f a.size) fun i s c g d=>absurd (a.low i k s c g d) FA⟩
end Go.Ab
variable {f:Nat->Value} {x:Nat×(Nat×Nat)} {b r:Nat} {d z:EU} {e t:TypeId} {a':Value} {k kk:IntKind} {y:Operand} {n:Int} {es:List (Value×Value×Nat)}
namespace Go.Ab
open Go.RowKit
variable {ρ:nL} {h:AH}
def C3 (ρ:nL) (i:Nat) (x:Nat×(Nat×Nat)):nL:=fun j=>if j=i then some x else ρ j
theorem cY:C3 ρ i x i=some x:=by simp[C3]
theorem dH (h:j≠i):C3 ρ i x j=ρ j:=by simp[C3,h]
theorem F1.C3 (h:ρ i=none):F1 ρ (C3 ρ i x):=by
 intro j y a;grind[dH]
variable {o:vQ} {o':Obj}
theorem I0 (c:gB P B ρ h w) (hb:Ca P (C3 ρ h.next (w.heap.size,s)) s o o')
  (l:w'.heap=w.heap.push o') (z:w'.os=w.os) (r:w'.output=w.output) (m:w'.tape=w.tape):
  sE P B ρ h w (C3 ρ h.next (w.heap.size,s)) (h.alloc o) w':=by
 have k:F1 ρ (C3 ρ h.next (w.heap.size,s)):=F1.C3<|c.iT _<|b0 _
 have a:∀j,(h.alloc o).get j=if j=h.next then some o else h.get j:=fun j=>AH.Cu c.bn
 have F:∀i b C,ρ i=some (b,C)->i<h.next:=fun i b C t=>by
  rcases ql i h.next with x|x
  exact x;rw[c.iT i x] at t;cases t
 refine {ext:=k,inv:=?_,un:=?_,sQ:=?_,stay:=FB,frame:=?_,range:=?_,base:=rfl,C8:=?_,next:=FF,size:=FB,os:=z,out:=r,tape:=m}
 .refine {yS:=?_,inj:=?_,low:=?_,old:=?_,iT:=?_,lZ:=?_,xS:=?_,size:=by rw[l];simp;exact ts c.size,bn:=ts c.bn}
  .intro i G p b s1 t;rw[a] at p;by_cases e:i=h.next
   .subst e;rw[bA1 rfl] at p;grind[cY]
   .rw[bA0 e] at p;rw[dH e] at t;have⟨o2,h2,h3⟩:=c.yS i G p b s1 t;refine⟨o2,?_,h3.mono k⟩;grind
  .intro i j b D E d y gi q f v;rw[a] at gi q;by_cases e:i=h.next
   .by_cases n:j=h.next
    .rw[e,n]
    .rw[bA0 n] at q;rw[dH n] at v;have⟨oj,hoj⟩:=c7.1 q;have⟨o2,h2,_⟩:=c.yS j oj hoj b E v;grind[cY]
   .rw[bA0 e] at gi;rw[dH e] at f;by_cases n:j=h.next
    .have⟨oi,hoi⟩:=c7.1 gi;have⟨o2,h2,_⟩:=c.yS i oi hoi b D f;grind[cY]
    .rw[bA0 n] at q;rw[dH n] at v;exact c.inj i j b D E d y gi q f v
  .intro i b s1 d gi f;rw[a] at gi;by_cases e:i=h.next
   .subst e;rw[cY] at f;cases f;exact c.size
   .rw[bA0 e] at gi;rw[dH e] at f;exact c.low i b s1 d gi f
  .intro i b s1 d f;rw[dH fun e=>by have:=c.bn;simp at d;omega] at f;exact c.old i b s1 d f
  .intro i u;simp at u;rw[dH FA];exact c.iT i FA
  .intro i u;simp at u;rw[a,aaa];exact c.lZ i FA
  .intro g p;exact k _ _<|c.xS g p
 .grind[dH]
 .grind
 .grind
 .intro i b s1 d gi f A;rw[a] at gi;by_cases e:i=h.next
  .grind[cY]
  .rw[bA0 e] at gi;grind[dH]
 .intro i u;rw[a,bA0<|by have:=c.bn;omega]
theorem Ey (c:gB P B ρ h w) {E:vQ} (n:h.base<=i) (t:h.get i=some E) (A:ρ i=some (b,s)) (hb:Ca P ρ s o o')
  (p:w'.heap=w.heap.setIfInBounds b o') (z:w'.os=w.os) (u:w'.output=w.output) (q:w'.tape=w.tape):
  sE P B ρ h w ρ (h.set i<|some o) w':=by
 have m:∀j,(h.set i _).get j=if j=i then some o else h.get j:=fun j=>AH.oF n
 have a:∀j,((h.set i<|some o).get j).isSome->(h.get j).isSome:=FB
 have⟨ob,hob,_⟩:=c.yS i E t b s A
 have G:b<w.heap.size:=FB
 have H:i<h.next:=by
  rcases ql i h.next with v|v
  exact v;rw[c.lZ i v] at t;cases t
 refine {ext:=F1.refl _,inv:=?_,un:=fun _ _ h=>h,sQ:=?_,stay:=FB,frame:=?_,range:=?_,base:=AH.o9,C8:=?_,next:=FF,size:=FB,os:=z,out:=u,tape:=q}
 .refine {yS:=?_,inj:=?_,low:=?_,old:=?_,iT:=?_,lZ:=?_,xS:=c.xS,size:=by rw[p];simp;exact c.size,bn:=by simp;exact c.bn}
  .intro j J l C g f;rw[m] at l;by_cases e:j=i
   .grind
   .rw[bA0 e] at l;have⟨o2,h2,h3⟩:=c.yS j J l C g f;refine⟨o2,?_,h3⟩;have I:b≠C:=by
     intro y;subst y;rcases ql j h.base with x|x;have:=c.old j b g x f;have:=c.low i b s n (by rw[t];rfl) A;omega;exact e<|c.inj j i b g s x n (by rw[l];rfl) (by rw[t];rfl) f A
    grind
  .intro j k r g sk d D l F f K;simp at d D;exact c.inj j k r g sk d D (a j l) (a k F) f K
  .intro j r g d l f;simp at d;exact c.low j r g d (a j l) f
  .intro j r g d f;simp at d;exact c.old j r g d f
  .intro j d;simp at d;exact c.iT j d
  .intro j d;simp at d;rw[m,aaa];exact c.lZ j d
 .grind
 .grind
 .grind
 grind
theorem j1 (c:gB P B ρ h w) {s':Nat×Nat} {J:vQ} (r:h.base<=i) (x:h.get i=some J) (F:ρ i=some (b,s)) (hb:Ca P (C3 ρ h.next (b,s')) s' o o')
  (D:w'.heap=w.heap.setIfInBounds b o') (E:w'.os=w.os) (y:w'.output=w.output) (t:w'.tape=w.tape):
  sE P B ρ h w (C3 ρ h.next (b,s')) ((h.set i none).alloc o) w':=by
 have l:F1 ρ (C3 ρ h.next (b,s')):=F1.C3<|c.iT _<|b0 _
 have m:∀j,((h.set i none).alloc o).get j=if j=h.next then some o else if j=i then none else h.get j:=fun j=>by
  rw[AH.Cu<|by simp;exact c.bn,AH.oF r];simp
 have⟨ob,hob,_⟩:=c.yS i J x b s F
 have L:b<w.heap.size:=FB
 have M:i<h.next:=by
  rcases ql i h.next with z|z
  exact z;rw[c.lZ i z] at x;cases x
 have K:=c.low i b s r (by rw[x];rfl) F
 have n:∀j u d,j≠h.next->((h.set i none).alloc o).get j≠none->ρ j=some (u,d)->(h.get j).isSome/\j≠i/\b≠u:=by
  intro j u d e q a;rw[m,bA0 e] at q;by_cases v:j=i;grind;rw[bA0 v] at q;have I:(h.get j).isSome:=by cases hh:h.get j with|none=>grind|some _=>rfl
  refine⟨I,v,?_⟩;rintro rfl;rcases ql j h.base with A|A;have:=c.old j b d A a;omega;exact v<|c.inj j i b d s A r I (by rw[x];rfl) a F
 refine {ext:=l,inv:=?_,un:=?_,sQ:=?_,stay:=FB,frame:=?_,range:=?_,base:=FF,C8:=?_,next:=FF,size:=FB,os:=E,out:=y,tape:=t}
 .refine {yS:=?_,inj:=?_,low:=?_,old:=?_,iT:=?_,lZ:=?_,xS:=fun g C=>l _ _<|c.xS g C,size:=FB,bn:=by simp;grind}
  .intro j N q u d a;by_cases e:j=h.next
   .simp_all[bA1,cY]
   .rw[dH e] at a;have⟨_,v,hne⟩:=n j u d e FB a;rw[m,bA0 e,bA0 v] at q;have⟨o2,h2,h3⟩:=c.yS j N q u d a;exact⟨o2,FB,h3.mono l⟩
  .intro j k p d sk f H q O a G;simp at f H;by_cases e:j=h.next
   .grind[dH,cY]
   .rw[dH e] at a;have⟨s1,_,hne⟩:=n j p d e FB a;by_cases e2:k=h.next
    .grind[cY]
    .rw[dH e2] at G;have⟨s2,_,_⟩:=n k p sk e2 FB G;exact c.inj j k p d sk f H s1 s2 a G
  .intro j p d f q a;simp at f;by_cases e:j=h.next
   .grind[cY]
   .rw[dH e] at a;have⟨s1,_,_⟩:=n j p d e FB a;exact c.low j p d f s1 a
  .intro j p d f a;simp at f;have e:j≠h.next:=by have:=c.bn;omega
   rw[dH e] at a
   exact c.old j p d f a
  .intro j f;simp at f;rw[dH FA];exact c.iT j FA
  .intro j f;simp at f;rw[m,aaa,aaa];exact c.lZ j FA
 .grind[dH]
 .grind
 .grind
 .grind[cY,dH]
 grind
theorem fA (b o n:Nat):Addr.add ⟨b,o,none⟩ n=⟨b,o+n,none⟩:=by
 grind[Addr.add]
variable {c:EZ}
theorem B7 {e o:Nat} {a:Nat×Nat} (hb:w.heap[b]?=some (.cells c e a)):w.cell? ⟨b,o,none⟩=c[o]?:=by
 grind[World.cell?]
theorem B5 (p:gB P B ρ h w) {a:Addr} {n:Nat} (q:ρ a.block=some (b,s)) (d:eE h a n=some l):
  ∃k,(loadCells ⟨b,a.off+s.2,none⟩ n).run P w= .ok ⟨k⟩ w/\bV ρ l k/\a.spot=none/\l.length=n:=by
 rw[eE] at d
 cases hs:a.spot with
 |some x=>grind
 |none=>
  simp[hs,dn,aO,dd] at d
  split at d
  .rename_i c e t x o;split at d
   .rename_i hle;cases d;obtain⟨A,z,f,rfl,g,r,_⟩:=p.yS _ _ o b s q;have i:=g.length;have m:(f.toList.drop s.2).length=f.size - s.2:=FF
    refine⟨_,?_,(g.drop _).take _,rfl,FG⟩
    have y:((((f.toList.drop s.2).take c.length).drop a.off).take n).length=n:=by
     grind
    have:=run_loadCells_list (P:=P) (w:=w) ⟨b,a.off+s.2,none⟩ ((((f.toList.drop s.2).take c.length).drop a.off).take n) fun j v u=>by
     grind[fA,B7]
    grind
   .cases d
  .cases d
theorem uX {b e:Nat} {l:Nat×Nat} (k:l.2=0):∀(vs:EU) (w:World) (c:EZ) (a i:Nat),w.heap[b]?=some (.cells c e l)->(∀v∈vs,v.oneCell'=true)->a+i+vs.length<=c.size->
  ∃f,(storeCells ⟨b,a,none⟩ vs i).run P w= .ok () f/\f.heap=w.heap.setIfInBounds b (.cells ⟨dU c.toList (a+i) vs⟩ e l)/\f.os=w.os/\f.output=w.output/\f.tape=w.tape
 |[],w,c,a,i,g,_,_=>by
  refine⟨w,by simp[storeCells],?_,rfl,rfl,rfl⟩;simp only[dU,g7,AQ,BE,ta];have⟨d,hb'⟩:=hY.1 g;apply Array.ext_getElem?;intro j;by_cases m:b=j;subst m;simp[d,hb'];grind
 |v::vs,w,c,a,i,g,r,o=>by
  simp[hK] at o;have p:w.cell? ⟨b,a+i,none⟩=some c[a+i]:=by rw[B7 g];grind
  have q:w.frozen? ⟨b,a+i,none⟩=false:=by simp[World.frozen?,g,k]
  have n:(w.setCell ⟨b,a+i,none⟩ v).heap[b]?=some (.cells (c.setIfInBounds (a+i) v) e l):=by
   simp[World.setCell,Array.getElem?_modify,g]
  have⟨f,hr,hh,ho,hu,ht⟩:=uX k vs _ _ a (i+1) n FB FG;refine⟨f,?_,?_,ho,hu,ht⟩;simp[storeCells,c8];simp_all[fA,run_store,c9];rw[hh];apply Array.ext_getElem?;intro j;by_cases m:b=j;subst m;have d:=(hY.1 g).1;simp only[World.setCell];rw[CP,CP];simp only[Array.size_modify,d,ew];congr 2;apply ES;simp only[dU,DS,hK];rw[show a+(i+1)=a+i+1 by omega,CQ FG];simp only[List.getElem_set_self,ef,gk,List.take_set_of_le<|b0 _,e7];grind[List.drop_set_of_lt];grind[Array.getElem?_setIfInBounds_ne,World.setCell]
variable {vs:EU}
theorem Ox (A:gB P B ρ h w) {a:Addr} {r:AH} (C:ρ a.block=some (b,s)) (g:iU h a vs=some r) (p:bV ρ vs d):
  ∃m,(storeCells ⟨b,a.off+s.2,none⟩ d).run P w= .ok () m/\sE P B ρ h w ρ r m/\a.spot=none:=by
 rw[iU] at g
 split at g
 .cases g
 rename_i f
 simp only[BZ,not_or,Bool.not_eq_true,BM,Bool.not_eq_false'] at f
 obtain⟨⟨D,n⟩,t⟩:=f
 have D:a.spot=none:=by cases hh:a.spot with|none=>rfl|some _=>grind
 split at g
 .rename_i c e M x z;split at g
  .rename_i hle;cases g;obtain⟨N,J,i,rfl,y,K,E⟩:=A.yS _ _ z b s C;have k:=y.length;have L:=p.length;have l:∀v∈d,v.oneCell'=true:=by
    intro v q;have⟨j,hj⟩:=DF q;have o:j<vs.length:=by
     grind
    have⟨u,hu,hru⟩:=p.get<|bj o;rw[hj] at hu;cases hu;exact hru.Ys FB
   simp only[l4] at k
   have⟨m,hrun,hheap,hos,hout,htape⟩:=uX (P:=P) hle.1 d w i (a.off+s.2) 0 J l FB
   refine⟨m,hrun,Ey A FA z C ⟨_,rfl,?_,?_,fun h=>⟨(E h).1,(E h).2.1,by
    grind[dU,List.length_append,List.length_take,List.length_drop]⟩⟩ hheap hos hout htape,D⟩
   .have:((dU i.toList (a.off+s.2+0) d).drop s.2).take (dU c a.off vs).length=dU ((i.toList.drop s.2).take c.length) a.off d:=by
     have I:(dU i.toList (a.off+s.2+0) d).drop s.2=dU (i.toList.drop s.2) a.off d:=by
      unfold dU;simp only[BE];rw[ef,AL FG,CR,sl,ef];rw[show a.off+s.2 - s.2=a.off by omega,show s.2+(a.off+d.length)=a.off+s.2+d.length by omega]
     rw[I];unfold dU;rw[CX,CX];simp only[cV,l4,oH,List.take_take];have F:min a.off c.length=a.off:=FA
     have e2:a.off+vs.length+(c.length - (a.off+vs.length))=c.length:=FA
     rw[F,e2];have G:min c.length a.off=a.off:=FA
     have H:min a.off (i.toList.length - s.2)=a.off:=FB
     rw[G,H];congr 1;congr 1;grind[List.take_of_length_le];grind
    show bV ρ _ (((dU i.toList _ d).drop s.2).take _)
    rw[this]
    exact y.dU _ p
   grind[dU,List.length_append,List.length_take,List.length_drop]
  .cases g
 .cases g
theorem Vv (a:P.cellsOf t≠0):∃i,P.info? t=some i/\i.size=P.cellsOf t:=by
 rw[Program.cellsOf] at a ⊢;cases hi:P.info? t with
 |none=>grind
 |some i=>grind
def lC {i:TypeInfo} (a:P.info? t=some i):(sizeOf t).run P w= .ok (P.cellsOf t) w:=by
 simp[sizeOf,typeInfo,a,Program.cellsOf]
theorem Qb {d:TypeDesc} (a:P.underlying t=some d):∃i,P.info? t=some i:=by
 grind[Program.underlying]
theorem Rm {b:Bool} (hb:oB P t=some b):(isAgg t).run P w= .ok b w:=by
 rw[oB] at hb;cases hd:P.underlying t with
 |none=>grind
 |some d=>
  rw[hd] at hb;simp[rk,Option.some.injEq] at hb;simp only[isAgg,c8,cr hd,cb];subst hb;cases d<;>rfl
theorem nj {b:Bool} (hb:oB P t=some b):∃i,P.info? t=some i:=by
 rw[oB] at hb;cases hd:P.underlying t with
 |none=>grind
 |some d=>exact Qb hd
theorem Af (b:sH P e=some z):
  ∃i a,P.info? e=some i/\i.zero=some a/\(zeroValue e).run P w= .ok a w/\a.cells.toList=z/\z.length=P.cellsOf e/\(∀ρ:nL,bV ρ z z):=by
 rw[sH] at b
 cases hi:P.info? e with
 |none=>grind
 |some i=>
  cases hz0:i.zero with
  |none=>grind
  |some a=>
   simp only[hi,hz0,u4] at b
   split at b
   .rename_i c;simp only[ep,beq_iff_eq] at c;cases b;refine⟨i,a,rfl,hz0,by simp_all[zeroValue,typeInfo],rfl,FB,fun ρ=>?_⟩;have d:=nX (ρ:=ρ) a c.1.1;exact d.cells (by cases a<;>first|rfl|simp[gV] at c)
   .cases b
variable {cs:EU}
theorem C9 {a:Nat} (c:iZ P t cs a=some v) (hc:bV ρ cs d):
  ∃e,(part t ⟨d⟩ a).run P w= .ok e w/\aR ρ v e:=by
 rw[iZ] at c
 cases hb:oB P t with
 |none=>grind
 |some b=>
  have⟨i,hi⟩:=nj hb
  rw[hb] at c
  cases b with
  |true=>
   simp only at c
   split at c
   .cases c;refine⟨.agg ⟨(d.drop a).take<|P.cellsOf t⟩,?_,?_⟩
    .simp only[part,c8,Rm hb,cb,ew,lC hi,hT];grind
    .simp only[aR];exact⟨_,by simp[sG];exact(hc.drop a).take _,rfl⟩
   .cases c
  |false=>
   simp only at c
   have⟨e,hv',hr⟩:=hc.get c
   refine⟨e,?_,hr⟩
   simp only[part,c8,Rm hb,cb]
   simp[hv']
theorem T2 (m:gB P B ρ h w) {a:Addr} (k:aR ρ (.pointer<|some a) a') (d:C5 P h t a=some v):
  ∃g,(Instr.loadAt t a').run P w= .ok g w/\aR ρ v g:=by
 simp only[aR] at k
 obtain⟨b,s,n,rfl⟩:=k
 rw[C5] at d
 cases hb:oB P t with
 |none=>grind
 |some x=>
  have⟨i,hinf⟩:=nj hb
  rw[hb] at d
  cases x with
  |true=>
   simp[cg] at d
   obtain⟨l,q,rfl⟩:=d
   have⟨l',hrun,hrel,j,_⟩:=B5 m n q
   refine⟨.agg ⟨l'⟩,?_,?_⟩
   .rw[j];simp[Instr.loadAt,Instr.sureAddr,loadVar,c8,hT,cb,Rm hb,ew,lC hinf,hrun]
   grind[aR,sG]
  |false=>
   simp only at d
   split at d
   .cases d
   .rename_i j;have j:a.spot=none:=by cases hh:a.spot with|none=>rfl|some _=>grind
    split at d
    .rename_i c e z x p;obtain⟨A,r,y,rfl,o,u,_⟩:=m.yS _ _ p b s n;have⟨g,hv',hrel⟩:=o.get d;refine⟨g,?_,hrel⟩;have f:w.cell? ⟨b,a.off+s.2,none⟩=some g:=by
      rw[B7 r];rw[List.getElem?_take] at hv';split at hv';grind;cases hv'
     rw[j]
     simp only[Instr.loadAt,Instr.sureAddr,loadVar,c8,hT,cb,Rm hb]
     simp[f]
    .cases d
theorem ik (n:gB P B ρ h w) {a:Addr} {l:Value} {g:AH} (j:aR ρ (.pointer<|some a) a') (p:aR ρ v l) (e:ba P h t a v=some g):
  ∃f,(Instr.storeAt t a' l).run P w= .ok () f/\sE P B ρ h w ρ g f:=by
 simp only[aR] at j
 obtain⟨b,s,o,rfl⟩:=j
 unfold ba nG at e
 cases ht:Fp v with
 |true=>grind
 |false=>
  simp only[ht,aO,dd] at e
  split at e
  .rename_i m;obtain⟨k,d⟩:=m;have⟨i,hinf⟩:=c7.1 d;have c:=p.cells ht;have⟨f,hrun,hevo,hspot⟩:=Ox n o e c;refine⟨f,?_,hevo⟩;rw[hspot];have q:=c.length;simp only[Instr.storeAt,Instr.sureAddr,storeVar,c8,hT,cb,lC hinf];grind
  .cases e
def Vt (ρ:nL):List (Nat×Value)->List (Nat×Value)->Prop
 |[],l=>l=[]
 |(i,v)::l,b=>∃a t,aR ρ v a/\Vt ρ l t/\b=(i,a)::t
theorem Pg:∀(vs:EU) (c:EZ) (a i:Nat),a+i+vs.length<=c.size->
  ((vs.zipIdx i).foldl (fun d (x:Value×Nat)=>d.setIfInBounds (a+x.2) x.1) c)=⟨dU c.toList (a+i) vs⟩
 |[],c,a,i,_=>by
  simp_all[ES,dU]
 |v::vs,c,a,i,b=>by
  simp[hK] at b;simp[List.zipIdx_cons,CA];rw[Pg vs _ a _ FG];congr 1;simp only[dU,DS,hK];rw[show a+(i+1)=a+i+1 by omega,CQ FG];simp only[List.getElem_set_self,ef,gk,List.take_set_of_le<|b0 _,e7];grind[List.drop_set_of_lt]
theorem K8 {place:Nat->Option (Nat×Nat)}:∀(b parts':List (Nat×Value)) (cells a r:EU),Vt ρ b parts'->bV ρ cells a->Mq place cells b=some r->
  ∃k,Instr.fill place ⟨a⟩ parts'=some ⟨k⟩/\bV ρ r k
 |[],parts',cells,a,r,f,j,e=>by
  simp[Vt] at f;subst f;simp[Mq,Option.some.injEq] at e;subst e;exact⟨_,rfl,j⟩
 |(i,v)::b,parts',cells,a,r,f,j,e=>by
  simp only[Vt] at f;obtain⟨u,t,s,q,rfl⟩:=f;simp[Mq] at e;split at e;rename_i g size x l d;rw[nG] at d;split at d;cases d;rename_i n;cases d;split at e;rename_i m;have c:=s.cells FB;have p:=c.length;have o:=j.length;have⟨k,hr',hrel⟩:=K8 b t _ _ r q (j.dU g c) e;refine⟨k,?_,hrel⟩;simp only[Instr.fill,l];simp[BJ] at p m;rw[bA0];rw[<-Array.foldl_toList,Array.toList_zipIdx,Pg u.cells.toList _ g 0 FG];grind;grind;cases e;cases e
theorem Vt.map {α:Type} {f g:α->Value} {k:α->Nat} (a:∀x,aR ρ (f x)<|g x):∀l:List α,Vt ρ (l.map fun p=>(k p,f p)) (l.map fun p=>(k p,g p))
 |[]=>rfl
 |x::l=>⟨g x,_,a x,Vt.map a l,rfl⟩
theorem T1:∀(fs:List Field),(∀f∈fs,(P.info? f.type).isSome)->
  (fs.mapM (m:=Sem) fun f=>do pure (f.offset,<-sizeOf f.type)).run P w= .ok (fs.map fun f=>(f.offset,P.cellsOf f.type)) w
 |[],_=>FF
 |f::fs,a=>by
  have⟨i,hi⟩:=c7.1<|a f c9;simp only[List.mapM_cons,c8,lC hi,cb,hT,T1 fs FB,kd]
theorem mh {a:List (Nat×Value)} {parts':Array (Nat×Value)} (q:Vt ρ a parts'.toList) (b:Sv P t a=some v):
  ∃r,(Instr.build t parts').run P w= .ok r w/\aR ρ v r:=by
 rw[Sv] at b
 split at b
 .rename_i z d o g;have⟨i,zv,_,_,hzr,hzc,_,hzz⟩:=Af (w:=w) o;split at b
  .rename_i p;simp[cg] at b;obtain⟨l,j,rfl⟩:=b;have⟨r',hr',hrel⟩:=K8 a parts'.toList z z l q (hzz ρ) j;refine⟨_,?_,HX⟩;have c:zv.cells=⟨z⟩:=HR
   have k:(d.mapM (m:=Sem) fun f=>do pure (f.offset,<-sizeOf f.type)).run P w= .ok (d.map fun f=>(f.offset,P.cellsOf f.type)) w:=by
    rw[Array.mapM_eq_mapM_toList];simp only[Sem.run_map];rw[T1 d.toList fun f u=>by
     grind[Array.all_eq_true']]
    simp[cb,Result.ok.injEq,and_true];grind
   simp only[Instr.build,c8,hzr,cb,cr g,k,c]
   simp_all
  .cases b
 .rename_i z n e o g;have⟨i,zv,_,_,hzr,hzc,_,hzz⟩:=Af (w:=w) o;split at b
  .rename_i s;have⟨ie,hie⟩:=c7.1 s;simp[cg] at b;obtain⟨l,j,rfl⟩:=b;have⟨r',hr',hrel⟩:=K8 a parts'.toList z z l q (hzz ρ) j;refine⟨_,?_,HX⟩;have c:zv.cells=⟨z⟩:=HR
   simp only[Instr.build,c8,hzr,cb,cr g,lC hie,c,hr']
   rfl
  .cases b
 .cases b
def I9 (ρ:nL):EY->EY->Prop
 |none,v=>v=none
 |some v,a=>∃u,aR ρ v u/\a=some u
theorem I9.map {c a:Operand->Value} (b:∀x,aR ρ (c x)<|a x) (o:Option Operand):I9 ρ (o.map c) (o.map a):=by
 cases o with
 |none=>rfl
 |some x=>exact⟨_,b x,rfl⟩
theorem zP (c:aR ρ v a) {d y:Nat} (e:y<=b) (hb:sW (some v) d y=some r):(∀code,(Instr.sliceBound a b code).run P w= .ok r w)/\r<=y:=by
 unfold sW at hb;grind[aR,run_sliceBound]
theorem J3 {n j i o k p:EY} (a:I9 ρ n o) (d:I9 ρ j k) (g:I9 ρ i p) (isS:Bool) {len cap m q l:Nat} (hc:cap<=b)
  (r:sW i cap cap=some m) (f:(if j.isNone&&i.isSome then none else sW j len m)=some q) (c:sW n 0 q=some l):
  (Instr.sliceBounds isS len b o k p).run P w= .ok (l,q,if i.isSome then m else b) w/\m<=cap/\l<=q/\(i=none->m=cap):=by
 cases i with
 |none=>
  simp[I9] at g;subst g
  simp[sW,Option.some.injEq] at r;subst r
  cases j with
  |none=>
   simp[I9] at d;subst d
   simp[sW] at f;subst f
   cases n with
   |none=>simp[I9] at a;subst a;simp[sW] at c;subst c;simp[Instr.sliceBounds]
   |some v=>
    obtain⟨u,e,rfl⟩:=a
    have⟨hr,hle⟩:=zP (P:=P) (w:=w) e (b0 _) c
    simp_all[Instr.sliceBounds]
  |some v=>
   obtain⟨u,e,rfl⟩:=d
   simp at f
   have⟨hr,hle⟩:=zP (P:=P) (w:=w) e hc f
   cases n with
   |none=>simp[I9] at a;subst a;simp[sW] at c;subst c;simp[Instr.sliceBounds,hr]
   |some v=>
    obtain⟨u,e,rfl⟩:=a
    have⟨hr2,hle2⟩:=zP (P:=P) (w:=w) e (b0 _) c
    simp_all[Instr.sliceBounds]
 |some x=>
  obtain⟨t,s,rfl⟩:=g
  have⟨hr0,hle0⟩:=zP (P:=P) (w:=w) s hc r
  cases j with
  |none=>simp at f
  |some v=>
   obtain⟨u,e,rfl⟩:=d
   simp at f
   have⟨hr,hle⟩:=zP (P:=P) (w:=w) e (b0 _) f
   cases n with
   |none=>simp[I9] at a;subst a;simp[sW] at c;subst c;simp_all[Instr.sliceBounds]
   |some v=>
    obtain⟨u,e,rfl⟩:=a
    have⟨hr2,hle2⟩:=zP (P:=P) (w:=w) e (b0 _) c
    simp_all[Instr.sliceBounds]
theorem iz (hi:gB P B ρ h w) {x Y:Value} {W u k D r E:EY} (G:aR ρ x Y) (z:I9 ρ W D) (q:I9 ρ u r) (C:I9 ρ k E)
  (d:Hn P h t x W u k=some v):∃X,(Instr.sliceAt t Y D r E).run P w= .ok X w/\aR ρ v X:=by
 unfold Hn at d
 split at d
 .rename_i e len p I;simp[aR] at G;subst G;split at d
  .rename_i m L;split at d
   .rename_i J F;split at d
    .rename_i l M;split at d
     .rename_i H;cases d;have⟨i,f⟩:=c7.1 H;have⟨hb,_,_,j⟩:=J3 (P:=P) (w:=w) z q C true (b0 p) L F M;have S:(if k.isSome then m else p)=m:=GK
      rw[S] at hb
      refine⟨.slice none (J - l)<|m - l,?_,FK⟩
      simp only[Instr.sliceAt,Instr.slice,c8,cr I,cb,hb,lC f,hT,Option.map_none]
      simp
     .cases d
    .cases d
   .cases d
  .cases d
 .rename_i e a len p I;obtain⟨ab,Q,n⟩:=a;split at d
  .rename_i m L;split at d
   .rename_i J F;split at d
    .rename_i l M;split at d
     .rename_i N;obtain⟨sp,rfl⟩:∃sp,n=some sp:=by cases n with|none=>simp at N|some sp=>grind
      split at d
      .rename_i H;obtain⟨f,rfl,rfl⟩:=H;cases d;have⟨i,f⟩:=c7.1 f;simp only[aR] at G;obtain⟨_,_,O,o,_,_,rfl⟩:=G;have⟨hb,hmc,hlh,j⟩:=J3 (P:=P) (w:=w) z q C true (m6 o) L F M;obtain rfl:m=0:=FA
       have hz:J=0:=by
        cases u with
        |none=>
         simp_all
        |some v=>
         simp at F;unfold sW at F;grind
       subst hz
       obtain rfl:l=0:=FA
       cases g:k.isSome with
       |true=>
        refine⟨.slice (some O) 0 0,?_,?_⟩
        .simp[Instr.sliceAt,Instr.slice,c8,cr I,cb,hb,lC f,hT,rk,g,ew]
        .simp only[ew,zR,aR];grind
       |false=>
        refine⟨.slice (some<|if o=0 then O else O.add (0*P.cellsOf e)) 0 o,?_,?_⟩
        .simp only[Instr.sliceAt,Instr.slice,c8,cr I,cb,hb,lC f,hT,rk,g,aO,dd,EL];split<;>rfl
        .simp only[aO,dd,aT1,aR];grind
      .cases d
     .rename_i N;have N:n=none:=GK
      subst N
      simp only[aR] at G
      obtain⟨b,s,o,V,R,Z,rfl⟩:=G
      split at d
      .rename_i H;have⟨i,f⟩:=c7.1 H.1;have⟨hb,hmc,hlh,j⟩:=J3 (P:=P) (w:=w) z q C true R L F M;have K:(Instr.sliceAt t (.slice (some ⟨b,Q+s.2,none⟩) len o) D r E).run P w=
         .ok (.slice (some<|if(if k.isSome then m else o)=l then⟨b,Q+s.2,none⟩ else⟨b,Q+s.2+l*P.cellsOf e,none⟩) (J - l)<|(if k.isSome then m else o) - l) w:=by
        simp only[Instr.sliceAt,Instr.slice,c8,cr I,cb,hb,lC f,hT,rk,fA]
        grind
       refine⟨_,K,?_⟩
       split at d
       .rename_i A;subst A;obtain rfl:J=m:=FA
        split at d
        .rename_i g;cases d;simp_all[ew,zR,aR]
        .rename_i g;have T:k=none:=GK
         subst T
         have j:=j rfl
         subst j
         split at d
         .rename_i hex;cases d;rw[xI] at hex;split at hex
          .rename_i c el fz x hg;cases hex;have⟨_,_,_,_,_,_,hx0⟩:=hi.yS _ _ hg b s V;have α:=(hx0 rfl).1;simp only[dn,aO,dd,zR,aR];grind
          .cases hex
         .cases d;rw[fA];simp only[dn,aO,dd,Hw,aR];rw[BF];refine⟨trivial,trivial,_,_,FA,fun _=>⟨b,s,V,FA,fun U=>?_⟩,rfl⟩;grind
         .cases d
       .rename_i A;cases d;cases k with
        |none=>
         have j:=j rfl
         subst j
         simp[dn,aO,dd]
         rw[aaa,fA]
         grind[aR]
        |some y=>
         simp[DT,ew]
         rw[fA,bA0 A]
         grind[aR]
      .cases d
    .cases d
   .cases d
  .cases d
 .cases d
theorem Az {d:Nat} {eq:TypeId->Value->Value->Option Bool} (heq:∀t x y j k r,aR ρ x j->aR ρ y k->eq t x y=some r->(Op.equalIn d t j k).run P w= .ok r w)
  {xs ys a b:EU} (g:bV ρ xs a) (i:bV ρ ys b):∀(fs:List Field) (r:Bool),rT P eq xs ys fs=some r->(Op.eqFields d ⟨a⟩ ⟨b⟩ fs).run P w= .ok r w
 |[],r,h=>by simp_all[rT,Option.some.injEq,Op.eqFields]
 |f::fs,r,h=>by
  simp[rT] at h;split at h;rename_i e;simp[Op.eqFields,e,ne_eq,not_true_eq_false,dd];exact Az heq g i fs r h;rename_i e;simp only[Op.eqFields,ne_eq,e,not_false_eq_true,ew,c8];split at h;rename_i x y l m;have⟨j,hxr,hxv⟩:=C9 (w:=w) l g;have⟨k,hyr,hyv⟩:=C9 (w:=w) m i;simp only[hxr,hyr,cb];split at h;rename_i c;have:=heq _ _ _ _ _ _ hxv hyv c;simp only[this,cb];simpa using Az heq g i fs r h;rename_i c;cases h;have:=heq _ _ _ _ _ _ hxv hyv c;simp[this];cases h;cases h
theorem Jo {d:Nat} {e:TypeId} {eq:TypeId->Value->Value->Option Bool} (heq:∀t x y f g r,aR ρ x f->aR ρ y g->eq t x y=some r->(Op.equalIn d t f g).run P w= .ok r w)
  {xs ys a b:EU} (j:bV ρ xs a) (k:bV ρ ys b):∀(is:EW) (r:Bool),xM P eq e xs ys is=some r->(Op.eqItems d e (P.cellsOf e) ⟨a⟩ ⟨b⟩ is).run P w= .ok r w
 |[],r,h=>by simp_all[xM,Option.some.injEq,Op.eqItems]
 |i::is,r,h=>by
  simp[xM] at h;simp only[Op.eqItems,c8];split at h;rename_i x y l m;have⟨f,hxr,hxv⟩:=C9 (w:=w) l j;have⟨g,hyr,hyv⟩:=C9 (w:=w) m k;simp only[hxr,hyr,cb];split at h;rename_i c;have:=heq _ _ _ _ _ _ hxv hyv c;simp only[this,cb];simpa using Jo heq j k is r h;rename_i c;cases h;have:=heq _ _ _ _ _ _ hxv hyv c;simp[this];cases h;cases h
set_option maxHeartbeats 1000000 in
theorem aDp (d:Nat):∀(t:TypeId) (x y o p:Value) (r:Bool),aR ρ x o->aR ρ y p->Jd P d t x y=some r->(Op.equalIn d t o p).run P w= .ok r w:=by
 induction d with
 |zero=>simp_all[Jd]
 |succ d q=>
  intro t x y o p r g c h;unfold Jd at h;split at h;rename_i f;simp[aR] at g c;subst g c;cases h;simp[Op.equalIn,cr f];rename_i f;simp[aR] at g c;subst g c;split at h;rename_i z;cases h;simp[Op.equalIn,cr f,z];cases h;rename_i f;simp[aR] at g c;subst g c;cases h;simp[Op.equalIn,cr f];rename_i b f;simp[aR] at g;subst g;cases h;cases b with
  |none=>simp[aR] at c;subst c;simp[Op.equalIn,cr f]
  |some b=>simp only[aR] at c;obtain⟨_,_,_,rfl⟩:=c;simp[Op.equalIn,cr f]
  rename_i f;simp only[aR] at g c;obtain⟨_,_,_,rfl⟩:=g;subst c;cases h;simp[Op.equalIn,cr f];rename_i f;simp[aR] at g c;subst g c;cases h;simp[Op.equalIn,cr f];rename_i f;simp[aR] at g c;subst g;obtain⟨_,_,rfl⟩:=c;cases h;simp[Op.equalIn,cr f];rename_i f;simp[aR] at g c;obtain⟨_,_,rfl⟩:=g;subst c;cases h;simp[Op.equalIn,cr f];rename_i s C D f;simp[aR] at g c;obtain⟨l,j,rfl⟩:=g;obtain⟨m,k,rfl⟩:=c;split at h;cases h;rename_i A;have v:P.fieldsOf t=s:=by simp[Program.fieldsOf,f]
  rw[run_equalIn_struct w d t l m FB FB,v];exact Az q (nP.1 j) (nP.1 k) _ _ h;rename_i n e C D f;simp[aR] at g c;obtain⟨l,j,rfl⟩:=g;obtain⟨m,k,rfl⟩:=c;split at h;rename_i u;have⟨i,hi⟩:=c7.1 u;rw[run_equalIn_array w d l m f hi];exact Jo q (nP.1 j) (nP.1 k) _ _ h;cases h;rename_i b _ _ f;simp[aR] at g;subst g;cases h;cases b with
  |none=>simp[aR] at c;subst c;simp[Op.equalIn,cr f]
  |some b=>
   obtain⟨_,_,sp⟩:=b;cases sp with
   |none=>simp only[aR] at c;obtain⟨_,_,_,_,_,_,rfl⟩:=c;simp[Op.equalIn,cr f]
   |some _=>simp only[aR] at c;obtain⟨_,_,_,_,_,_,rfl⟩:=c;simp[Op.equalIn,cr f]
  rename_i a _ _ _ _ f;simp[aR] at c;subst c;cases h;obtain⟨_,_,sp⟩:=a;cases sp with
  |none=>simp only[aR] at g;obtain⟨_,_,_,_,_,_,rfl⟩:=g;simp[Op.equalIn,cr f]
  |some _=>simp only[aR] at g;obtain⟨_,_,_,_,_,_,rfl⟩:=g;simp[Op.equalIn,cr f]
  rename_i b f;simp[aR] at g;subst g;cases h;cases b with
  |none=>simp[aR] at c;subst c;simp[Op.equalIn,cr f]
  |some b=>simp only[aR] at c;obtain⟨_,_,_,rfl⟩:=c;simp[Op.equalIn,cr f]
  rename_i f;simp only[aR] at g c;obtain⟨_,_,_,rfl⟩:=g;subst c;cases h;simp[Op.equalIn,cr f];rename_i f;simp[aR] at g c;subst g c;cases h;simp[Op.equalIn,cr f];rename_i f;simp only[aR] at g c;subst g;obtain⟨_,_,_,_,_,_,rfl⟩:=c;cases h;simp[Op.equalIn,cr f];rename_i f;simp only[aR] at g c;obtain⟨_,_,_,_,_,_,rfl⟩:=g;subst c;cases h;simp[Op.equalIn,cr f];cases h
variable {op:BinOp}
theorem Xm {x:Operand} {b g:Value} (d:aR ρ a a') (hb:aR ρ b g) (l:Fp a=false) (j:Fp b=false) (m:Pk P t x y a b=true):
  (eqGuard op t x y a' g).run P w= .ok () w:=by
 cases a with
 |chan r=>simp[Fp] at l
 |nilIface=>
  simp[aR] at d;subst d
  cases b with
  |chan r=>simp[Fp] at j
  |nilIface=>
   simp[aR] at hb;subst hb
   simp[Pk,BZ] at m
   cases x with
   |const c=>rw[eqGuard_nil_constL];rfl
   |_=>
    cases y with
    |const c=>rw[eqGuard_nil_constR];rfl
    |_=>grind[E9]
  |iface u v=>simp[aR] at hb;obtain⟨_,_,rfl⟩:=hb;rw[eqGuard_nil_iface];rfl
  |agg e=>simp[aR] at hb;obtain⟨_,_,rfl⟩:=hb;cases op<;>rfl
  |tuple e=>simp[aR] at hb;obtain⟨_,_,rfl⟩:=hb;cases op<;>rfl
  |func i f c=>simp only[aR] at hb;obtain⟨_,_,_,_,_,_,rfl⟩:=hb;cases op<;>rfl
  |pointer a=>cases a with
   |none=>simp[aR] at hb;subst hb;cases op<;>rfl
   |some a=>simp only[aR] at hb;obtain⟨_,_,_,rfl⟩:=hb;cases op<;>rfl
  |map a=>cases a with
   |none=>simp[aR] at hb;subst hb;cases op<;>rfl
   |some a=>simp only[aR] at hb;obtain⟨_,_,_,rfl⟩:=hb;cases op<;>rfl
  |slice a _ _=>cases a with
   |none=>simp[aR] at hb;subst hb;cases op<;>rfl
   |some a=>
    obtain⟨_,_,sp⟩:=a
    cases sp with
    |none=>simp only[aR] at hb;obtain⟨_,_,_,_,_,_,rfl⟩:=hb;cases op<;>rfl
    |some _=>simp only[aR] at hb;obtain⟨_,_,_,_,_,_,rfl⟩:=hb;cases op<;>rfl
  |_=>simp[aR] at hb;subst hb;cases op<;>rfl
 |iface u v=>simp[aR] at d;obtain⟨_,_,rfl⟩:=d;rw[eqGuard_at_iface];rfl
 |tuple e=>simp[aR] at d;obtain⟨_,_,rfl⟩:=d;rw[eqGuard_at_tuple];rfl
 |func i f c=>simp only[aR] at d;obtain⟨_,_,_,_,_,_,rfl⟩:=d;rw[eqGuard_at_func];rfl
 |pointer a=>cases a with
  |none=>simp_all[aR,eqGuard_at_pointer]
  |some a=>simp only[aR] at d;obtain⟨_,_,_,rfl⟩:=d;rw[eqGuard_at_pointer];rfl
 |map a=>cases a with
  |none=>simp_all[aR,eqGuard_at_map]
  |some a=>simp only[aR] at d;obtain⟨_,_,_,rfl⟩:=d;rw[eqGuard_at_map];rfl
 |slice a _ _=>cases a with
  |none=>simp_all[aR,eqGuard_at_slice]
  |some a=>
   obtain⟨_,_,sp⟩:=a
   cases sp with
   |none=>simp only[aR] at d;obtain⟨_,_,_,_,_,_,rfl⟩:=d;rw[eqGuard_at_slice];rfl
   |some _=>simp only[aR] at d;obtain⟨_,_,_,_,_,_,rfl⟩:=d;rw[eqGuard_at_slice];rfl
 |bool _=>simp_all[aR,eqGuard_at_bool]
 |int _ _=>simp_all[aR,eqGuard_at_int]
 |float _ _=>simp_all[aR,eqGuard_at_float]
 |complex _ _ _=>simp_all[aR,eqGuard_at_complex]
 |string _=>simp_all[aR,eqGuard_at_string]
 |nilFunc=>simp_all[aR,eqGuard_at_nilFunc]
 |agg e=>
  simp[aR] at d;obtain⟨k,_,rfl⟩:=d
  cases b with
  |agg n=>
   grind[aR,Pk,Bool.not_eq_true',run_eqGuard_agg]
  |chan r=>simp[Fp] at j
  |iface u v=>simp[aR] at hb;obtain⟨_,_,rfl⟩:=hb;cases op<;>rfl
  |tuple e=>simp[aR] at hb;obtain⟨_,_,rfl⟩:=hb;cases op<;>rfl
  |func i f c=>simp only[aR] at hb;obtain⟨_,_,_,_,_,_,rfl⟩:=hb;cases op<;>rfl
  |pointer a=>cases a with
   |none=>simp[aR] at hb;subst hb;cases op<;>rfl
   |some a=>simp only[aR] at hb;obtain⟨_,_,_,rfl⟩:=hb;cases op<;>rfl
  |map a=>cases a with
   |none=>simp[aR] at hb;subst hb;cases op<;>rfl
   |some a=>simp only[aR] at hb;obtain⟨_,_,_,rfl⟩:=hb;cases op<;>rfl
  |slice a _ _=>cases a with
   |none=>simp[aR] at hb;subst hb;cases op<;>rfl
   |some a=>
    obtain⟨_,_,sp⟩:=a
    cases sp with
    |none=>simp only[aR] at hb;obtain⟨_,_,_,_,_,_,rfl⟩:=hb;cases op<;>rfl
    |some _=>simp only[aR] at hb;obtain⟨_,_,_,_,_,_,rfl⟩:=hb;cases op<;>rfl
  |_=>simp[aR] at hb;subst hb;cases op<;>rfl
def Ki {d:Nat} {x y:Value} {r:Bool} (h:Jd P d t x y=some r):Fp x=false/\Fp y=false:=by
 cases d with
 |zero=>simp[Jd] at h
 |succ d=>unfold Jd at h;split at h<;>first|exact⟨rfl,rfl⟩|cases h
theorem aKo {m:Int} (a:Vp op k m n=some v):(binOp op t (.int k m)<|.int k n).run P w= .ok v w/\∀ρ:nL,aR ρ v v:=by
 cases op<;>simp only[Vp,aWa,rk,Option.some.injEq] at a<;>try cases a
 case add=>exact⟨by rw[binOp_add];rfl,fun ρ=>HD⟩
 case sub=>exact⟨by rw[binOp_sub];rfl,fun ρ=>HD⟩
 case mul=>exact⟨by rw[binOp_mul];rfl,fun ρ=>HD⟩
 case quo=>
  split at a;cases a;rename_i h;cases a;simp_all[binOp_quo,Op.intDiv,aR]
 case rem=>
  split at a;cases a;rename_i h;cases a;simp_all[binOp_rem,Op.intDiv,aR]
 case eql=>simp_all[binOp_eql,aR]
 case neq=>simp_all[binOp_neq,aR]
 case lss=>simp_all[binOp_lss,aR]
 case leq=>simp_all[binOp_leq,aR]
 case gtr=>simp_all[binOp_gtr,aR]
 simp_all[binOp_geq,aR]
theorem Jl {b d:Value} {r:Bool} (e:aR ρ a a') (hb:aR ρ b d) (g:Jd P 10000 t a b=some r) (l:∀k m i n,¬(a= .int k m/\b= .int i n)) (o:∀m n,¬(a= .string m/\b= .string n)):
  (binOp .eql t a' d).run P w= .ok (.bool r) w/\(binOp .neq t a' d).run P w= .ok (.bool !r) w:=by
 have x:(Op.equal t a' d).run P w= .ok r w:=aDp 10000 t a b a' d r e hb g
 have⟨h1,h2⟩:=Ki g
 have q:∀op,(op=BinOp.eql\/op=BinOp.neq)->binOp op t a' d=(if op= .eql then(do pure (.bool<|<-Op.equal t a' d):Sem Value) else do pure (.bool<|!(<-Op.equal t a' d))):=by
  intro op p;cases a with
  |chan r=>simp[Fp] at h1
  |int k m=>
   simp[aR] at e;subst e;cases b with
   |int i n=>grind
   |_=>
    simp_all[Jd]
  |string m=>
   simp[aR] at e;subst e;cases b with
   |string n=>grind
   |_=>
    simp_all[Jd]
  |float k m=>simp_all[Jd]
  |complex k m n=>simp_all[Jd]
  |tuple j=>simp_all[Jd]
  |bool c=>grind[aR,binOp]
  |nilFunc=>grind[aR,binOp]
  |nilIface=>grind[aR,binOp]
  |iface u v=>grind[aR,binOp]
  |func s f c=>grind[aR,binOp]
  |agg j=>grind[aR,binOp]
  |pointer a=>cases a with
   |none=>grind[aR,binOp]
   |some a=>grind[aR,binOp]
  |map a=>cases a with
   |none=>grind[aR,binOp]
   |some a=>grind[aR,binOp]
  |slice a _ _=>cases a with
   |none=>grind[aR,binOp]
   |some a=>
    obtain⟨_,_,sp⟩:=a
    cases sp with
    |none=>grind[aR,binOp]
    |some _=>grind[aR,binOp]
 simp_all
theorem aDo {x:Operand} {b i:Value} (f:aR ρ a a') (hb:aR ρ b i) (c:qp P op t x y a b=some v):
  ∃o,(do eqGuard op t x y a' i;binOp op t a' i:Sem Value).run P w= .ok o w/\aR ρ v o:=by
 unfold qp at c
 split at c
 .rename_i k m l n;simp[aR] at f hb;subst f hb;split at c
  .rename_i p;subst p;have⟨h1,h2⟩:=aKo (P:=P) (w:=w) (t:=t) c;grind[Sem.run_bind,eqGuard_at_int,Sem.run_pure,Result.andThen_ok]
  .cases c
 .cases c
 .rename_i q s;have d:∀k m l n,¬(a= .int k m/\b= .int l n):=FB;have e:∀m n,¬(a= .string m/\b= .string n):=FB;split at c
  .split at c
   .rename_i j;simp only[cg] at c;obtain⟨r,g,rfl⟩:=c;have⟨h1,h2⟩:=Ki g;refine⟨.bool r,?_,FK⟩;grind[Sem.run_bind,Xm,Result.andThen_ok,Jl]
   .cases c
  .split at c
   .rename_i j;simp only[cg] at c;obtain⟨r,g,rfl⟩:=c;have⟨h1,h2⟩:=Ki g;refine⟨.bool !r,?_,FK⟩;simp[c8,Xm f hb h1 h2 j,cb,(Jl f hb g d e).2]
   .cases c
  .cases c
theorem Ku {o:Obj} (a:w.heap[r]?=some o) (hc:∀c e f,o≠.cells c e f):(getObj r).run P w= .ok o w:=by
 grind[getObj,Sem.run]
theorem Aj {o:Obj} (a:w.heap[r]?=some o) (hc:∀c e f,o≠.cells c e f):(setObj r o').run P w= .ok () {w with heap:=w.heap.setIfInBounds r o'}:=by
 grind[setObj,Sem.run]
theorem xF {es:Array MapEntry} {c:Nat} (a:w.heap[r]?=some (.map es c)):(getObj r).run P w= .ok (.map es c) w:=
 Ku a FB
theorem E7 {es:Array MapEntry} {c:Nat} (a:w.heap[r]?=some (.map es c)):(setObj r o').run P w= .ok () {w with heap:=w.heap.setIfInBounds r o'}:=
 Aj a FB
theorem Rj (h:Oq P t=some e):∃a k,P.underlying t=some (.map a e)/\P.underlying a=some (.int k):=by
 grind[Oq]
def lj (ρ:nL):Option (Nat×Value)->Option (Nat×Value)->Prop
 |none,y=>y=none
 |some (i,v),y=>∃a,aR ρ v a/\y=some (i,a)
theorem Nq {kk k:IntKind} {n:Int}:∀(es:List (Value×Value×Nat)) (c:List MapEntry) (i:Nat) (r:Option (Nat×Value)),qW ρ es c->Dg k n es i=some r->
  ∃e,Instr.findNow (.int kk) (.int k n) c i=some e/\lj ρ r e
 |[],c,i,r,d,a=>by
  simp[qW] at d;subst d;simp[Dg,Option.some.injEq] at a;subst a;exact⟨none,rfl,rfl⟩
 |(f,v,b)::es,c,i,r,d,a=>by
  obtain⟨u,s,t,g,o,p,rfl⟩:=d;cases f with
  |int j m=>
   simp[aR] at g;subst g;simp only[Dg] at a;split at a;rename_i q;subst q;split at a;rename_i l;simp[Option.some.injEq] at a;subst a;refine⟨_,?_,s,o,rfl⟩;grind[Instr.findNow,Instr.sameNow];rename_i l;have⟨e,hr,hrel⟩:=Nq (kk:=kk) es t _ r p a;refine⟨e,?_,hrel⟩;have:(n==m)=false:=by simpa using l
   grind[Instr.findNow,Instr.sameNow];cases a
  |_=>simp[Dg] at a
def tZ {c:TypeId} (f:P.underlying c=some (.int kk)) {a:List MapEntry} {r:Option (Nat×Value)} (d:qW ρ es a) (e:Dg k n es 0=some r):
  ∃b,(Instr.findKey c (.int k n) a).run P w= .ok b w/\lj ρ r b:=by
 have⟨b,hr,hrel⟩:=Nq (kk:=kk) es a 0 r d e
 refine⟨b,?_,hrel⟩
 simp[Instr.findKey,c8,cr f,cb,hr,hT]
theorem pM {a:TypeId} (b:P.underlying a=some (.int kk)) (e:Bool):(Instr.checkKey e 10000 a<|.int k n).run P w= .ok () w:=by
 show(Instr.checkKey e (9999+1) a _).run P w= .ok () w;rw[Instr.checkKey,c8,cr b];rfl
theorem aE7 {z:Value} (a:pj P t=some z):(zeroValue t).run P w= .ok z w/\aR ρ z z:=by
 rw[pj] at a;cases hi:P.info? t with
 |none=>grind
 |some i=>
  cases hz0:i.zero with
  |none=>grind
  |some z0=>
   simp only[hi,hz0,u4] at a;split at a;simp_all[zeroValue,typeInfo,nX];cases a
theorem aAa (k:gB P B ρ h w) {x f:Value} (e:aR ρ x f) (d:vx h x=some es):
  ∃a,qW ρ es a/\((f= .map none/\a=[])\/∃r c,f= .map (some r)/\w.heap[r]?=some (.map ⟨a⟩ c)):=by
 unfold vx at d
 split at d
 .cases d;simp[aR] at e;exact⟨[],rfl,FB⟩
 .rename_i r;split at d
  .rename_i g c j;cases d;simp only[aR] at e;obtain⟨b,s,i,rfl⟩:=e;obtain⟨n,l,a,m,rfl⟩:=k.yS _ _ j b s i;grind
  .cases d
 .cases d
theorem te (o:gB P B ρ h w) {x m ix g:Value} {ok:Bool} (A:aR ρ x m) (f:aR ρ ix g) (a:Ed P h t x ix ok=some v):
  ∃l,(Instr.lookup t m g ok).run P w= .ok l w/\aR ρ v l:=by
 unfold Ed at a
 split at a
 .rename_i e D k n q s;have⟨key,kk,ht,hkt⟩:=Rj q;have⟨es',he,hx'⟩:=aAa o A s;simp[aR] at f;subst f;have sY:∀(r:Option (Nat×Value)) (b:Option _),(Instr.findKey key (.int k n) es').run P w= .ok b w->
    (Instr.lookup t m (.int k n) ok).run P w=(match b with
     |some (_,v)=>(.ok (if ok then .tuple #[v,.bool true] else v) w:Result Value)
     |none=>((zeroValue e).run P w).andThen fun z w=> .ok (if ok then .tuple #[z,.bool false] else z) w):=by
   intro r b d
   rcases hx' with⟨rfl,rfl⟩|⟨r,c,rfl,u⟩
   .simp only[Instr.lookup,c8,cr ht,cb,pM hkt,d,hT];cases b with
    |some p=>rfl
    |none=>simp_all
   .simp only[Instr.lookup,c8,cr ht,cb,xF u,pM hkt,d,hT];cases b with
    |some p=>rfl
    |none=>simp_all
  split at a
  .rename_i i v0 d;simp[Option.some.injEq] at a;obtain⟨b,j,l,y,rfl⟩:=tZ (w:=w) hkt he d;refine⟨_,sY none _ j,?_⟩;grind[aR,sG,bV.cons,bV.nil]
  .rename_i d;simp[cg] at a;obtain⟨z,C,a⟩:=a;have⟨b,j,hr'⟩:=tZ (w:=w) hkt he d;simp[lj] at hr';subst hr';have⟨hzr,hzz⟩:=aE7 (w:=w) (ρ:=ρ) C;refine⟨_,by rw[sY none _ j,hzr];rfl,?_⟩;grind[aR,sG,bV.cons,bV.nil]
  .cases a
 .cases a
theorem qW.length:∀{es:List (Value×Value×Nat)} {a:List MapEntry},qW ρ es a->es.length=a.length
 |[],_,c=>by grind[qW]
 |(_,_,_)::es,_,⟨_,_,t,_,_,b,rfl⟩=>by simp[qW.length b]
theorem qW.aKx:∀{es:List (Value×Value×Nat)} {a:List MapEntry} {k k' v b:Value} {c:Nat},qW ρ es a->aR ρ k k'->aR ρ v b->
  qW ρ (es++[(k,v,c)]) (a++[{key:=k',val:=b,born:=c}])
 |[],_,k,k',v,b,c,l,d,e=>by grind[qW]
 |(_,_,_)::es,_,k,k',v,b,c,⟨j,v1,t,f,g,i,rfl⟩,d,e=>⟨j,v1,_,f,g,qW.aKx i d e,rfl⟩
theorem qW.vM:∀{es:List (Value×Value×Nat)} {a:List MapEntry} (i:Nat),qW ρ es a->qW ρ (es.eraseIdx i) (a.eraseIdx i)
 |[],_,i,f=>by grind[qW]
 |(_,_,_)::es,_,0,⟨_,_,t,c,d,b,rfl⟩=>b
 |(_,_,_)::es,_,i+1,⟨e,v1,t,c,d,b,rfl⟩=>⟨e,v1,_,c,d,qW.vM i b,rfl⟩
theorem qW.mod:∀{es:List (Value×Value×Nat)} {b:List MapEntry} (i:Nat) {k k' v a:Value},qW ρ es b->aR ρ k k'->aR ρ v a->
  qW ρ (es.modify i fun e=>(k,v,e.2.2)) (b.modify i fun e=>{e with key:=k',val:=a})
 |[],_,i,k,k',v,a,m,_,_=>by grind[qW]
 |(_,_,_)::es,_,0,k,k',v,a,⟨_,_,t,g,j,c,rfl⟩,d,f=>⟨k',a,t,d,f,c,rfl⟩
 |(_,_,_)::es,_,i+1,k,k',v,a,⟨l,v1,t,g,j,c,rfl⟩,d,f=>⟨l,v1,_,g,j,qW.mod i c d f,rfl⟩
theorem P0 {kk k:IntKind} {n:Int}:∀(a:List MapEntry) (i:Nat) {j:Nat} {v:Value},Instr.findNow (.int kk) (.int k n) a i=some (some (j,v))->i<=j/\∃e,a[j - i]?=some e/\e.key= .int k n
 |[],i,j,v,h=>by grind[Instr.findNow]
 |e::b,i,j,v,h=>by
  simp[Instr.findNow] at h;split at h;rename_i c;simp[Option.some.injEq,Prod.mk.injEq] at h;obtain⟨rfl,rfl⟩:=h;refine⟨b0 _,e,FF,?_⟩;cases hk:e.key with
  |int j m=>
   grind[Instr.sameNow]
  |_=>grind[Instr.sameNow]
  have⟨h1,e',h2,h3⟩:=P0 b _ h;grind;cases h
variable {ty:TypeId}
theorem vf (j:gB P B ρ h w) {a:Array TypeId} {k:TypeId} {x d:Value} (g:a[0]?=some t) (i:P.underlying t=some (.map k e)) (n:aR ρ x d) (l:vx h x=some es):
  (Builtin.len_ a ty #[d]).run P w= .ok (goInt es.length) w:=by
 obtain⟨f,b,⟨rfl,rfl⟩|⟨r,c,rfl,m⟩⟩:=aAa j n l
 .have:=b.length;simp_all[Builtin.len_,cr]
 .have:=b.length;simp[Builtin.len_,g,cr i,xF m,this]
theorem ue (A:gB P B ρ h w) {m J k k' x u:Value} {F:AH} (H:aR ρ m J) (G:aR ρ k k') (I:aR ρ x u) (d:Mu P h t m k x=some F):
  ∃K,(Instr.mapUpdate t J k' u).run P w= .ok () K/\sE P B ρ h w ρ F K:=by
 unfold Mu at d
 split at d
 .rename_i e r f n p;have⟨key,kk,ht,hkt⟩:=Rj p;split at d
  .cases d
  .rename_i y;split at d
   .rename_i L a z;simp[cg] at d;obtain⟨o,g,rfl⟩:=d;simp only[aR] at H G;subst G;obtain⟨b,s,v,rfl⟩:=H;obtain⟨N,j,c,l,rfl⟩:=A.yS _ _ z b s v;rw[aNa] at g;split at g
    .rename_i i v0 q;simp[Option.some.injEq] at g;subst g;obtain⟨M,C,Q,_,rfl⟩:=tZ (w:=w) hkt l q;obtain⟨O,D,v2,_,rfl⟩:=Nq (kk:=kk) L c 0 _ l q;have⟨_,e',he',hek⟩:=P0 c 0 D;simp[EL] at he';have E:(Instr.keyThatStays (.int f n)<|.int f n).run P w= .ok (.int f n) w:=by
      simp[Instr.keyThatStays,Instr.sameBits]
     refine⟨{w with heap:=w.heap.setIfInBounds b (.map ((⟨c⟩:Array MapEntry).modify i fun e=>{e with key:= .int f n,val:=u}) a)},?_,?_⟩
     .simp only[Instr.mapUpdate,c8,cr ht,cb,xF j,pM hkt,C];rw[show((⟨c⟩:Array MapEntry)[i]?).map _=some (.int f n) by grind];grind[Result.andThen_ok,E7]
     .refine Ey A FA z v (⟨_,qW.mod i l (k':= .int f n) FK I,?_⟩) rfl rfl rfl rfl;grind
    .rename_i q;simp[Option.some.injEq] at g;subst g;have⟨M,C,hr'⟩:=tZ (w:=w) hkt l q;simp[lj] at hr';subst hr';refine⟨{w with heap:=w.heap.setIfInBounds b (.map ((⟨c⟩:Array MapEntry).push {key:= .int f n,val:=u,born:=a})<|a+1)},?_,?_⟩
     .simp only[Instr.mapUpdate,c8,cr ht,cb,xF j,pM hkt,C,E7 j]
     .refine Ey A FA z v (⟨_,qW.aKx l (k':= .int f n) FK I,?_⟩) rfl rfl rfl rfl;simp
    .cases g
   .cases d
 .cases d
theorem va (o:gB P B ρ h w) {a:Array TypeId} {m D k k':Value} {C:AH} (A:a[0]?=some t) (q:aR ρ m D) (p:aR ρ k k') (c:Na P h t m k=some C):
  ∃E,(Builtin.delete_ a ty ⟨[D,k']⟩).run P w= .ok (.tuple #[]) E/\sE P B ρ h w ρ C E:=by
 unfold Na at c
 split at c
 .rename_i e F n f;have⟨key,kk,ht,hkt⟩:=Rj f;cases c;simp[aR] at q p;subst q p;exact⟨w,by simp_all[Builtin.delete_,cr,pM],sE.refl o⟩
 .rename_i e r F n f;have⟨key,kk,ht,hkt⟩:=Rj f;split at c
  .cases c
  .rename_i v;split at c
   .rename_i H d y;simp only[aR] at q p;subst p;obtain⟨b,s,u,rfl⟩:=q;obtain⟨I,g,j,l,rfl⟩:=o.yS _ _ y b s u;split at c
    .rename_i i v0 x;simp[Option.some.injEq] at c;subst c;obtain⟨G,z,J,_,rfl⟩:=tZ (w:=w) hkt l x;refine⟨{w with heap:=w.heap.setIfInBounds b (.map ((⟨j⟩:Array MapEntry).eraseIdxIfInBounds i) d)},?_,?_⟩
     .simp[Builtin.delete_,A,cr ht,pM hkt,xF g,z,E7 g]
     .refine Ey o FA y u (⟨_,qW.vM i l,?_⟩) rfl rfl rfl rfl;grind
    .rename_i x;simp[Option.some.injEq] at c;subst c;have⟨G,z,hr'⟩:=tZ (w:=w) hkt l x;simp[lj] at hr';subst hr';refine⟨{w with heap:=w.heap.setIfInBounds b (.map ⟨j⟩ d)},?_,?_⟩
     .simp[Builtin.delete_,A,cr ht,pM hkt,xF g,z,E7 g]
     .exact Ey o FA y u ⟨_,l,rfl⟩ rfl rfl rfl rfl
    .cases c
   .cases c
 .cases c
theorem sG.map {α:Type} {f g:α->Value} (b:∀x,aR ρ (f x)<|g x) (a:Array α):sG ρ (a.map f) (a.map g):=by
 grind[nP,Array.toList_map,bV.N5]
set_option maxHeartbeats 1000000 in
theorem Pu (R:gB P B ρ h w) {M u:Operand->Value} (l:∀x,aR ρ (M x)<|u x) (o:Oper) {v:Value} (g:dQ P M h o.op=some v):
  ∃A,(execOp u o).run P w= .ok (.value A) w/\aR ρ v A:=by
 obtain⟨dst,op,ty,pos,after,guard⟩:=o
 simp only at g
 cases op with
 |move x=>simp[dQ,Option.some.injEq] at g;subst g;exact⟨_,rfl,l x⟩
 |assign x=>simp[dQ,Option.some.injEq] at g;subst g;exact⟨_,rfl,l x⟩
 |pick c a b=>
  simp[dQ] at g
  split at g
  .rename_i t r;have m:=l c;rw[r] at m;simp[aR] at m;simp[Option.some.injEq] at g;subst g;refine⟨if t then u a else u b,?_,FB⟩;simp[execOp,m,asBool]
  .cases g
 |build t J=>
  simp[dQ] at g
  obtain⟨A,H,q⟩:=mh (w:=w) (parts':=J.map fun p=>(p.1,u p.2)) (by
   simp only[BN];exact Vt.map (f:=fun p:Nat×Operand=>M p.2) (fun p=>l p.2) _) g
  refine⟨A,?_,q⟩
  show(do pure (Next.value<|<-Instr.build t _):Sem Next).run P w=_
  simp_all
 |load t a=>
  simp[dQ] at g
  split at g
  .rename_i a0 I;have m:=l a;rw[I] at m;have⟨A,H,q⟩:=T2 R m g;simp_all[execOp]
  .cases g
 |nilCheck x=>
  simp[dQ] at g
  split at g
  .rename_i a I;have m:=l x;rw[I] at m;simp[Option.some.injEq] at g;subst g;have z:=m;simp only[aR] at m;obtain⟨b,s,N,D⟩:=m;simp_all[execOp]
  .rename_i f a b I;have m:=l x;rw[I] at m;simp[Option.some.injEq] at g;subst g;have z:=m;simp only[aR,Lj] at m;obtain⟨_,_,_,rfl,_,_,D⟩:=m;simp_all[execOp]
  .rename_i f a b I;have m:=l x;rw[I] at m;simp[Option.some.injEq] at g;subst g;have z:=m;simp only[aR,Lj] at m;obtain⟨_,_,_,⟨_,_,_,rfl⟩,_,_,D⟩:=m;simp_all[execOp]
  .cases g
 |binOp op t x y yt=>
  simp[dQ] at g
  have⟨A,H,q⟩:=aDo (w:=w) (l x) (l y) g
  refine⟨A,?_,q⟩
  show(do pure (Next.value<|<-(do eqGuard op t x y _ _;binOp op t _ _)):Sem Next).run P w=_
  rw[c8,H]
  rfl
 |unOp op t x=>
  simp only[dQ] at g
  split at g
  .rename_i k n E;have m:=l x;rw[E] at m;simp[aR] at m;simp only[Option.some.injEq] at g;subst g;exact⟨.int k<|k.wrap<|0 - n,by simp[execOp,m,Op.unary,Op.intArith],FK⟩
  .rename_i b E;have m:=l x;rw[E] at m;simp[aR] at m;simp[Option.some.injEq] at g;subst g;exact⟨.bool !b,by simp[execOp,m,Op.unary],FK⟩
  .cases g
 |makeInterface t x=>
  simp[dQ] at g
  split at g
  .cases g
  .rename_i d G T;simp[Option.some.injEq] at g;subst g;refine⟨_,?_,by simp only[aR];exact⟨_,l x,rfl⟩⟩;have:P.concrete t=true:=by
    rw[Program.concrete];rw[T];cases d<;>grind
   simp_all[execOp,run_makeInterface]
  .cases g
 |makeFunc fn first C=>
  simp[dQ] at g
  split at g
  .rename_i f;simp[Option.some.injEq] at g;subst g;refine⟨.func (.func f) (first.map u)<|C.map u,by simp[execOp,Instr.makeFunc],?_⟩;grind[aR,Lj,sG.map]
  .cases g
 |slice t x Z S mx=>
  simp[dQ] at g
  have⟨A,H,q⟩:=iz R (l x) (I9.map l Z) (I9.map l S) (I9.map l mx) g
  simp_all[execOp]
 |fieldAddr s x f=>
  simp[dQ] at g
  split at g
  .rename_i X a G E;have m:=l x;rw[E] at m;simp only[aR] at m;obtain⟨b,sp,N,D⟩:=m;split at g
   .rename_i fd Q;split at g
    .cases g
    .rename_i U;simp[Option.some.injEq] at g;subst g;have⟨i,hinf,_⟩:=Vv U;refine⟨.pointer<|some<|Addr.add ⟨b,a.off+sp.2,a.spot⟩ fd.offset,?_,?_⟩
     .simp[execOp,D,Instr.fieldAt,cr G,Q,Instr.sureAddr,fieldPlace,lC hinf,U]
     grind[aR,Addr.add]
   .cases g
  .cases g
 |field t x f=>
  simp[dQ] at g
  split at g
  .rename_i X W G E;have m:=l x;rw[E] at m;simp[aR] at m;obtain⟨L,r,D⟩:=m;split at g
   .rename_i fd Q;have⟨A,H,q⟩:=C9 (w:=w) g<|nP.1 r;exact⟨A,by simp[execOp,D,Instr.field,cr G,Q,asAgg,H],q⟩
   .cases g
  .cases g
 |indexAddr t x i=>
  simp[dQ] at g
  split at g
  .rename_i n e a k j G E F;have m:=l x;have z:=l i;rw[E] at m;rw[F] at z;simp only[aR] at m z;obtain⟨b,sp,N,D⟩:=m;split at g
   .rename_i r;simp[Option.some.injEq] at g;subst g;have⟨inf,hinf⟩:=c7.1 r.2.2;refine⟨.pointer<|some<|Addr.add ⟨b,a.off+sp.2,a.spot⟩<|j.toNat*P.cellsOf e,?_,?_⟩
    .simp[execOp,D,z,Instr.indexAt,asIntOf,cr G,Instr.sureAddr,r.1,r.2.1,lC hinf]
    grind[aR,Addr.add]
   .cases g
  .rename_i e a n c k j G E F;have m:=l x;have z:=l i;rw[E] at m;rw[F] at z;split at g
   .rename_i r;obtain⟨ab,V,K⟩:=a;obtain rfl:K=none:=r.2.2.2;simp only[aR] at m z;obtain⟨b,sp,c',N,_,_,D⟩:=m;simp[Option.some.injEq] at g;subst g;have⟨inf,hinf⟩:=c7.1 r.2.2.1;refine⟨.pointer<|some<|Addr.add ⟨b,V+sp.2,none⟩<|j.toNat*P.cellsOf e,?_,?_⟩
    .simp[execOp,D,z,Instr.indexAt,asIntOf,cr G,r.1,r.2.1,lC hinf]
    grind[fA,aR]
   .cases g
  .cases g
 |index t x i=>
  simp[dQ] at g
  split at g
  .rename_i n e W k j G E F;have m:=l x;have z:=l i;rw[E] at m;rw[F] at z;simp[aR] at m z;obtain⟨L,O,D⟩:=m;split at g
   .rename_i r;have⟨inf,hinf⟩:=c7.1 r.2.2;have⟨A,H,q⟩:=C9 (w:=w) g<|nP.1 O;exact⟨A,by simp[execOp,D,z,Instr.index,asIntOf,cr G,r.1,r.2.1,lC hinf,H],q⟩
   .cases g
  .cases g
 |extract t i=>
  simp only[dQ] at g
  split at g
  .rename_i vs Y;have m:=l t;rw[Y] at m;simp[aR] at m;obtain⟨α,r,D⟩:=m;have⟨A,hv',q⟩:=(nP.1 r).get g;simp_all[BA,execOp,Instr.extract]
  .cases g
 |lookup t x ix ok=>
  simp[dQ] at g
  have⟨A,H,q⟩:=te R (l x) (l ix) g
  simp_all[execOp]
 |_=>simp_all[dQ]
theorem D8 (f:Nat->Value):(Array.range 0).map f= #[]:=FB
theorem Dq {size:Nat} (c:z.length=size) (n:Nat):((Array.range<|n*size).map fun i=>(⟨z⟩:EZ)[i % (⟨z⟩:EZ).size]!)=⟨iE z n⟩:=by
 apply ES;simp only[BN,Array.toList_range];show(List.range _).map (fun i=>(⟨z⟩:EZ)[i % z.length]!)=iE z n;subst c;induction n with
 |zero=>simp[iE]
 |succ n d=>
  rw[ux,List.range_add,kt,d];unfold iE;rw[List.replicate_succ',List.flatten_append];congr 1;simp only[BG,List.flatten_nil,g7,BT];apply List.ext_getElem;simp;intro j a b;simp at a b;simp only[List.getElem_map,DU,Function.comp];grind[Nat.mul_comm,Nat.mul_add_mod,Nat.mod_eq_of_lt]
theorem Jx (a:bV ρ z z) (n:Nat):bV ρ (iE z n) (iE z n):=by
 rw[iE];induction n with
 |zero=>exact bV.nil
 |succ n b=>rw[AR,BG];exact a.append b
theorem Pp {S d:Operand->Value} (q:∀x,aR ρ (S x)<|d x) (o:Oper) {b:vQ} (a:kZ P S o.op=some (b,f)):
  ∃(o':Obj) (g:Nat->Value),Ca P ρ (0,0) b o'/\(execOp d o).run P w= .ok (.value<|g w.heap.size) (w.alloc o')/\∀(ρ':nL) i s,s.2=0->ρ' i=some (w.heap.size,s)->aR ρ' (f i) (g w.heap.size):=by
 obtain⟨dst,op,ty,pos,after,guard⟩:=o
 simp only at a
 cases op with
 |alloc e=>
  simp only[kZ,cg] at a
  obtain⟨z,I,a⟩:=a
  cases a
  have⟨i,zv,hi,_,hzr,hzc,hzl,hzz⟩:=Af (w:=w) I
  refine⟨_,fun n=> .pointer (some ⟨n,0,none⟩),⟨zv.cells,rfl,?_,?_,fun _=>⟨rfl,rfl,FB⟩⟩,?_,?_⟩
  .grind
  .grind
  .simp[execOp,Instr.alloc,hzr,newVar,newRow]
  grind[aR]
 |box e x=>
  simp only[kZ,cg] at a
  obtain⟨l,v,a⟩:=a
  cases a
  rw[nG] at v
  split at v
  .cases v
  .rename_i ht;cases v;have E:=(q x).cells FB;have T:=E.length;refine⟨.cells (d x).cells e,fun n=> .pointer (some ⟨n,0,none⟩),⟨_,rfl,?_,?_,FB⟩,?_,?_⟩
   .grind
   .grind
   .simp[execOp,Instr.box,newVar,newRow]
   grind[aR]
 |buildSlice t len m=>
  simp only[kZ] at a
  split at a
  .rename_i e F;split at a
   .rename_i z I;have⟨i,zv,hi,_,hzr,hzc,hzl,hzz⟩:=Af (w:=w) I;split at a
    .rename_i hle;simp only[cg] at a;obtain⟨l,v,a⟩:=a;cases a;have⟨r',hr',hrel⟩:=K8 _ (m.map fun p=>(p.1,d p.2)).toList _ _ l (by
      simp only[BN];simp_all[Vt.map,Nat,Operand]) (Jx (hzz ρ) len) v
     have U:=hrel.length
     have D:zv.cells=⟨z⟩:=HR
     refine⟨_,fun n=> .slice (some ⟨n,0,none⟩) len len,⟨_,rfl,?_,?_,fun _=>⟨rfl,rfl,by show r'.length=l.length;omega⟩⟩,?_,?_⟩
     .grind
     .grind
     .have G:¬len*P.cellsOf e>2^24:=FA
      have H:Instr.fill _ _ (m.map fun(x:Nat×Operand)=>(x.1,d x.2)).toList=some _:=hr'
      show(do pure (Next.value<|<-Instr.buildSlice t len _):Sem Next).run P w=_
      simp only[Instr.buildSlice,c8,cr F,cb,lC hi,G,dd]
      have E:=Dq hzl len
      by_cases u:len*P.cellsOf e=0
      .have j:(⟨iE z len⟩:EZ)= #[]:=by rw[<-E,u,D8]
       rw[j] at H
       simp only[u,ew,c8,hT,cb]
       rw[D8,H]
       simp[newRow]
      .simp only[u,dd,c8,hzr,hT,cb,D];simp_all[newRow]
     .intro ρ' i s O N;simp only[aR];exact⟨_,_,_,N,b0 _,FA,by rw[O]⟩
    .cases a
   .cases a
  .cases a
 |makeSlice t l c=>
  simp only[kZ] at a
  split at a
  .rename_i e k1 J k2 cc F v E;split at a
   .rename_i z I;have⟨i,zv,hi,_,hzr,hzc,hzl,hzz⟩:=Af (w:=w) I;split at a
    .rename_i A;obtain⟨u,K,X,Y⟩:=A;simp[Option.some.injEq,Prod.mk.injEq] at a;obtain⟨rfl,rfl⟩:=a;have C:=q l;have y:=q c;rw[v] at C;rw[E] at y;simp[aR] at C y;have D:zv.cells=⟨z⟩:=HR
     have Z:i.bytes=P.bytesOf e:=by simp[Program.bytesOf,hi]
     refine⟨.cells ⟨iE z cc.toNat⟩ e,fun n=> .slice (some ⟨n,0,none⟩) J.toNat cc.toNat,⟨_,rfl,?_,?_,FB⟩,?_,?_⟩
     .simp only[l5];simp_all[e6,b0,Jx]
     .grind
     .have R:IntKind.i64.wrap J=J:=IntWalk.i64_in _ FA;have Q:IntKind.i64.wrap cc=cc:=IntWalk.i64_in _ FA;have t1:(typeInfo e).run P w= .ok i w:=by simp[typeInfo,hi]
      have M:((decide (cc<0)||decide ((i.bytes:Int)*cc>2^48))||decide (J<0)||decide (J>cc))=false:=by
       grind
      simp only[execOp,C,y,Instr.makeSlice,c8,cr F,cb,asInt,asIntOf,hT,t1,R,Q,M,aO,dd,run_askRoom,lC hi]
      have L:=Dq hzl cc.toNat
      by_cases u:cc.toNat*P.cellsOf e=0
      .have j:(⟨iE z cc.toNat⟩:EZ)= #[]:=by rw[<-L,u,D8]
       rw[j]
       simp only[u,ew,c8,hT,cb]
       simp_all[D8,newRow]
      .simp only[u,dd,c8,hzr,hT,cb,D];simp_all[newRow]
     .intro ρ' i s O N;simp only[aR];exact⟨_,_,_,N,b0 _,FA,by rw[O]⟩
    .cases a
   .cases a
  .cases a
 |makeMap t r=>
  cases r with
  |none=>
   simp[kZ,Option.some.injEq,Prod.mk.injEq] at a
   obtain⟨rfl,rfl⟩:=a
   refine⟨_,fun n=> .map _,⟨[],rfl,rfl⟩,rfl,?_⟩
   grind[aR]
  |some x=>
   simp[kZ] at a
   split at a
   .rename_i W elem k n F V;simp[Option.some.injEq,Prod.mk.injEq] at a;obtain⟨rfl,rfl⟩:=a;have K:=q x;rw[V] at K;simp[aR] at K;refine⟨_,fun n=> .map (some n),⟨[],rfl,rfl⟩,by simp[execOp,Instr.makeMap,K,cr F,asInt,asIntOf],?_⟩;grind[aR]
   .cases a
 |_=>grind[kZ]
end Go.Ab
