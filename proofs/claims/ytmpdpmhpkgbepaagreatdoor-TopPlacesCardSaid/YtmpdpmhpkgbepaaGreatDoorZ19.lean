/- Parts for TopPlaces. Conditions: as stated. -/
import Derived.Lib.AppendIntMem
import Derived.Lib.AtoiErrMem
import Derived.Lib.SmallJoins
import Derived.Test.YtmpdpmhpkgbepaaGreatDoorZ11
import Derived.Test.YtmpdpmhpkgbepaaGreatDoorZ12
set_option linter.unusedVariables false
set_option maxRecDepth 100000
set_option maxHeartbeats 4000000
open Go.Value renaming int->zd,pointer->ze,slice->zf
open Go.IntKind renaming i64->zj,u64->zk
open Go.Ending renaming returned->zm
open Go.Obj renaming cells->zn
open Option renaming some->zo,none->zp
open Go renaming World->zu,Calls->zw,Value->zz
open Go.Proofs.Tryz
namespace Go.Proofs.YtmpdpmhpkgbepaaGreatDoor
open Go Go.RowKit Go.ChangeShapes Go.WideShapes
theorem Mo(s:ByteArray)(c:UInt8)(A:List ByteArray)(w:zu)(hs:s.size<4294967281)(M:Lib.countB s ⟨#[c]⟩+1=A.length)(J:Lib.splitB ⟨#[c]⟩ 0 (Lib.countB s ⟨#[c]⟩) s=A):
 zw prog 62 #[.string s,.string ⟨#[c]⟩] w fun e w'=>e=zm (zf (zo ⟨w.heap.size,0,zp⟩) A.length A.length)/\w'=w.alloc (zn (A.map Value.string).toArray 9):=by
 have E:=Lib.countB_le ⟨#[c]⟩ (yA 1) s.size s (yA _);have g:=Any.strings_genSplit_core Tryz.cS (by kernel_rfl) s ⟨#[c]⟩ 0 (-1) (Lib.countB s ⟨#[c]⟩+1) w hs (yA 1) (Nat.zero_le _)
  (fun x cs hx=>(Any.strings_Index_one { Tryz.cS with } x c _).mono fun e w' ⟨D,B⟩=>⟨by rw[D];show _=zm (zd zj (Lib.index x.data.toList [c]));rw[Lib.index_one],B⟩)
  ((Any.strings_Count_one { Tryz.cS with } s c w).mono fun e w' ⟨D,B⟩=>⟨by rw[D];show _=zm (zd zj ((Lib.count s.data.toList [c]:Nat):Int));rw[Lib.count_one];rfl,B⟩)
  (by decide) (by decide) (by rw[if_pos (by decide)];omega)
 rw[Nat.add_sub_cancel,J,M]at g;have H:Lib.cellsOf A A.length=(A.map Value.string).toArray:=Lib.cellsOf_full _;rw[H]at g;have G:Hid (zw prog 114 #[.string s,.string ⟨#[c]⟩,zd zj 0,zd zj (-1)] w fun e w'=>e=zm (zf (zo ⟨w.heap.size,0,zp⟩) A.length A.length)/\w'=w.alloc (zn (A.map Value.string).toArray 9)):=yw g;clear g H E M J hs;go_enter func62,ntmps62;go_wp2_with fail;refine G.out.mono ?_;rintro e w' ⟨rfl,I⟩;have N:=yw I;clear I;go_wp2;go_ret;exact⟨rfl,N.out⟩
theorem Mp{w w':zu}(h:Lib.TabIs prog w "internal/strconv.uint64pow10" zk Lib.pow10Tab)(hb:Below w.heap.size w w'):Lib.TabIs prog w' "internal/strconv.uint64pow10" zk Lib.pow10Tab:=by obtain⟨g,A⟩:=Option.isSome_iff_exists.1 (show(prog.globalNamed "internal/strconv.uint64pow10").isSome=true by kernel_rfl);exact Go.Joins.var_stays A h hb (yA _)
theorem XM(s:ByteArray)(v:Int)(w:zu)(hs:s.size<=9223372036854775806)(O:Lib.parseIntB 64 s.data.toList=.ok v)(I: -9223372036854775808<=v)(N:v<=9223372036854775807)(G:(⟨(Lib.itoa v).toArray⟩:ByteArray)=s)
 (J:Lib.TabIs prog w "internal/strconv.uint64pow10" zk Lib.pow10Tab):
 zw prog 176 #[.string s] w fun z w'=>z=zm (.tuple #[zd zj v,.bool true])/\Below w.heap.size w w':=by
 obtain⟨X,Y,R⟩:=Qe (Tryz.strconv_ParseInt_10_at64_ok s hs v O w) J (And.intro I (And.intro N G));have h2:(Lib.itoa v == s.toList)=true:=by rw[Lib.toList_data,<-G];simp
 clear hs O I N G J;go_enter func176,ntmps176;go_wp2_with fail;refine X.out.mono ?_;rintro z H ⟨rfl,D⟩;have A:Below w.heap.size w H:=by
  rcases D with rfl|⟨t,rfl⟩
  .exact Below.refl _ _
  .exact Lib.bytesWorld_below _ _ _
 have U:=yw (Tryz.strconv_FormatInt_10 v R.out.1 R.out.2.1 H (Mp Y.out A));have M:=yw A;clear D A;go_wp2_with fail;refine U.out.mono ?_;rintro z T ⟨rfl,V,os,B⟩;have E:Hid (Below w.heap.size w T):=yw (by rw[B];exact yC M.out (Lib.below_grow _ H (yA _) V os) M.out.size);clear B;go_wp2;go_ret2;exact⟨rfl,E.out⟩
def uN:List ByteArray:= [(⟨#[103,114,111,117,112]⟩:ByteArray),(⟨#[100,114,111,112]⟩:ByteArray),(⟨#[109,111,118,101]⟩:ByteArray),(⟨#[115,104,97,114,101,115]⟩:ByteArray),(⟨#[113,117,111,116,97]⟩:ByteArray),(⟨#[115,112,97,119,110]⟩:ByteArray),(⟨#[119,97,107,101]⟩:ByteArray),(⟨#[98,108,111,99,107]⟩:ByteArray),(⟨#[121,105,101,108,100]⟩:ByteArray),(⟨#[101,120,105,116]⟩:ByteArray),(⟨#[116,105,99,107]⟩:ByteArray),(⟨#[114,101,102,105,108,108]⟩:ByteArray),(⟨#[112,117,108,108]⟩:ByteArray),(⟨#[110,105,99,101]⟩:ByteArray),(⟨#[109,97,115,107]⟩:ByteArray)]
theorem GA(w:zu):zw prog 116 #[] w fun z w'=>z=zm (zf (zo ⟨w.heap.size,0,zp⟩) 15 15)/\w'=w.alloc (zn (uN.map Value.string).toArray 9):=by go_enter func116,ntmps116;go_wp2;go_ret;exact⟨rfl,rfl⟩
abbrev dE(B j:Nat):zz:=.iface 270 (.agg #[ze (zo ⟨B,j,zp⟩)])
abbrev bF(B j:Nat):zz:=.iface 272 (.agg #[ze (zo ⟨B,j,zp⟩)])
abbrev iI(B j:Nat):zz:=.iface 275 (.agg #[ze (zo ⟨B,j,zp⟩)])
def Kz(w:zu)(l:List zz)(z:Ending)(w':zu):Prop:=∃R,z=zm (zf (zo ⟨R,0,zp⟩) l.length l.length)/\w.heap.size<=R/\w'.heap[R]?=zo (zn l.toArray 20 (0,0))/\Below w.heap.size w w'
theorem xH(w:zu)(B A:Obj)(l:List zz):Kz w l (zm (zf (zo ⟨w.heap.size+1+1,0,zp⟩) l.length l.length)) (((w.alloc B).alloc A).alloc (zn l.toArray 20)):=by
 have hb:Below w.heap.size w ((w.alloc B).alloc A):=(yE w B).alloc (by simp) A;have hs:((w.alloc B).alloc A).heap.size=w.heap.size+1+1:=by simp
 have D:=heap_alloc_new ((w.alloc B).alloc A) (zn l.toArray 20);rw[hs]at D;exact⟨_,rfl,by omega,D,yC hb (yE _ _) hb.size⟩
theorem Kz.drew{w w':zu}{l:List zz}{z:Ending}(h:Kz w l z w'):Kz w l z w'.drew:=by obtain⟨R,D,B,E,A⟩:=h;exact⟨R,D,B,E,⟨A.os,A.tape,A.output,A.size,A.block⟩⟩
theorem BG(w:zu)(B:Nat)(k a b n m mask:Int)(h:w.heap[B]?=zo (zn #[zd zj k,zd zj a,zd zj b,zd zj n,zd zj m,zd zk mask] 35 (0,0)))(hk:k=1∨k=11):
 zw prog 117 #[ze (zo ⟨B,0,zp⟩)] w (Kz w [dE B 1,bF B 3]):=by
 have c0:w.cell? ⟨B,0,zp⟩=zo (zd zj k):=by simp[World.cell?,h]
 have hl:=(yx h).1;clear h;rcases hk with rfl|rfl
 all_goals
  go_enter func117,ntmps117;go_upto_region 1 with(fail)
  go_region
 all_goals
  go_wp2;go_ret
  first
   | exact xH w _ _ [dE B 1,bF B 3]
   | exact(xH w _ _ [dE B 1,bF B 3]).drew
   | exact(xH w _ _ [dE B 1,bF B 3]).drew.drew
theorem XN(w:zu)(B:Nat)(a b n m mask:Int)(h:w.heap[B]?=zo (zn #[zd zj 5,zd zj a,zd zj b,zd zj n,zd zj m,zd zk mask] 35 (0,0))):
 zw prog 117 #[ze (zo ⟨B,0,zp⟩)] w (Kz w [dE B 1,bF B 3,bF B 4]):=by
 have c0:w.cell? ⟨B,0,zp⟩=zo (zd zj 5):=by simp[World.cell?,h]
 have hl:=(yx h).1;clear h;go_enter func117,ntmps117;go_upto_region 1 with(fail)
 go_region
 all_goals
  go_upto_region 11 with(fail)
  go_region
 all_goals
  go_wp2;go_ret
  first
   | exact xH w _ _ [dE B 1,bF B 3,bF B 4]
   | exact(xH w _ _ [dE B 1,bF B 3,bF B 4]).drew
   | exact(xH w _ _ [dE B 1,bF B 3,bF B 4]).drew.drew
   | exact(xH w _ _ [dE B 1,bF B 3,bF B 4]).drew.drew.drew
theorem XO(w:zu)(B:Nat)(a b n m mask:Int)(h:w.heap[B]?=zo (zn #[zd zj 6,zd zj a,zd zj b,zd zj n,zd zj m,zd zk mask] 35 (0,0))):
 zw prog 117 #[ze (zo ⟨B,0,zp⟩)] w (Kz w [dE B 1,bF B 3,iI B 5]):=by
 have c0:w.cell? ⟨B,0,zp⟩=zo (zd zj 6):=by simp[World.cell?,h]
 have hl:=(yx h).1;clear h;go_enter func117,ntmps117;go_upto_region 1 with(fail)
 go_region
 all_goals
  go_upto_region 13 with(fail)
  go_region
 all_goals
  go_wp2;go_ret
  first
   | exact xH w _ _ [dE B 1,bF B 3,iI B 5]
   | exact(xH w _ _ [dE B 1,bF B 3,iI B 5]).drew
   | exact(xH w _ _ [dE B 1,bF B 3,iI B 5]).drew.drew
   | exact(xH w _ _ [dE B 1,bF B 3,iI B 5]).drew.drew.drew
