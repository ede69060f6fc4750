/- Parts of the proof of the law TopKeeps: contracts of the functions that it reaches, and plain laws of what they compute. Conditions: those in each statement. -/
import Derived.Lib.AppendIntMem
import Derived.Lib.AtoiErrMem
import Derived.Lib.SmallJoins
import Derived.Test.YtmgekibncmnmiaaGreatDoorM15
import Derived.Test.YtmgekibncmnmiaaGreatDoorM16
set_option linter.unusedVariables false
set_option maxRecDepth 100000
set_option maxHeartbeats 4000000
open Go.Proofs.Tryz
namespace Go.Proofs.YtmgekibncmnmiaaGreatDoor
open Go Go.RowKit Go.ChangeShapes Go.WideShapes
theorem zeV(s:ByteArray)(c:UInt8)(parts:List ByteArray)(w:World)(hs:s.size<4294967281)(E:Lib.countB s ⟨#[c]⟩+1=parts.length)(hp:Lib.splitB ⟨#[c]⟩ 0 (Lib.countB s ⟨#[c]⟩) s=parts):
 Calls prog 62 #[.string s,.string ⟨#[c]⟩] w fun e w'=>e=.returned (.slice (some ⟨w.heap.size,0,none⟩) parts.length parts.length)/\w'=w.alloc (.cells (parts.map Value.string).toArray 9):=by
 have hle:=Lib.countB_le ⟨#[c]⟩ (zg 1) s.size s (zg _);have g:=Any.strings_genSplit_core Tryz.zrU (by kernel_rfl) s ⟨#[c]⟩ 0 (-1) (Lib.countB s ⟨#[c]⟩+1) w hs (zg 1) (Nat.zero_le _)
  (fun x cs hx=>(Any.strings_Index_one { Tryz.zrU with } x c _).mono fun e w' ⟨B,A⟩=>⟨by rw[B];show _=Ending.returned (Value.int .i64 (Lib.index x.data.toList [c]));rw[Lib.index_one],A⟩)
  ((Any.strings_Count_one { Tryz.zrU with } s c w).mono fun e w' ⟨B,A⟩=>⟨by rw[B];show _=Ending.returned (Value.int .i64 ((Lib.count s.data.toList [c]:Nat):Int));rw[Lib.count_one];rfl,A⟩)
  (by decide) (by decide) (by rw[if_pos (by decide)];omega)
 rw[Nat.add_sub_cancel,hp,E]at g;have D:Lib.cellsOf parts parts.length=(parts.map Value.string).toArray:=Lib.cellsOf_full _;rw[D]at g;have G:Hid (Calls prog 114 #[.string s,.string ⟨#[c]⟩,.int .i64 0,.int .i64 (-1)] w fun e w'=>e=.returned (.slice (some ⟨w.heap.size,0,none⟩) parts.length parts.length)/\w'=w.alloc (.cells (parts.map Value.string).toArray 9)):=zc g;clear g D hle E hp hs;go_enter func62,ntmps62;go_wp2_with fail;refine G.out.mono ?_;rintro e w' ⟨rfl,hw⟩;have H:=zc hw;clear hw;go_wp2;go_ret;exact⟨rfl,H.out⟩
theorem zeW{w w':World}(h:Lib.TabIs prog w "internal/strconv.uint64pow10" .u64 Lib.pow10Tab)(hb:Below w.heap.size w w'):Lib.TabIs prog w' "internal/strconv.uint64pow10" .u64 Lib.pow10Tab:=by obtain⟨g,A⟩:=Option.isSome_iff_exists.1 (show(prog.globalNamed "internal/strconv.uint64pow10").isSome=true by kernel_rfl);exact Go.Joins.var_stays A h hb (zg _)
theorem zi2(s:ByteArray)(v:Int)(w:World)(hs:s.size<=9223372036854775806)(O:Lib.parseIntB 64 s.data.toList=.ok v)(I: -9223372036854775808<=v)(N:v<=9223372036854775807)(G:(⟨(Lib.itoa v).toArray⟩:ByteArray)=s)
 (J:Lib.TabIs prog w "internal/strconv.uint64pow10" .u64 Lib.pow10Tab):
 Calls prog 176 #[.string s] w fun z w'=>z=.returned (.tuple #[.int .i64 v,.bool true])/\Below w.heap.size w w':=by
 have X:=zc (Tryz.strconv_ParseInt_10_at64_ok s hs v O w);have Y:=zc J;have R:=zc (And.intro I (And.intro N G));have h2:(Lib.itoa v == s.toList)=true:=by rw[Lib.toList_data,<-G];simp
 clear hs O I N G J;go_enter func176,ntmps176;go_wp2_with fail;refine X.out.mono ?_;rintro z H ⟨rfl,D⟩;have A:Below w.heap.size w H:=by
  rcases D with rfl | ⟨t,rfl⟩
  ·exact Below.refl _ _
  ·exact Lib.bytesWorld_below _ _ _
 have U:=zc (Tryz.strconv_FormatInt_10 v R.out.1 R.out.2.1 H (zeW Y.out A));have M:=zc A;clear D A;go_wp2_with fail;refine U.out.mono ?_;rintro z T ⟨rfl,V,os,B⟩;have E:Hid (Below w.heap.size w T):=zc (by rw[B];exact zj M.out (Lib.below_grow _ H (zg _) V os) M.out.size);clear B;go_wp2;go_ret2;exact⟨rfl,E.out⟩
def qK:List ByteArray:= [(⟨#[103,114,111,117,112]⟩:ByteArray),(⟨#[100,114,111,112]⟩:ByteArray),(⟨#[109,111,118,101]⟩:ByteArray),(⟨#[115,104,97,114,101,115]⟩:ByteArray),(⟨#[113,117,111,116,97]⟩:ByteArray),(⟨#[115,112,97,119,110]⟩:ByteArray),(⟨#[119,97,107,101]⟩:ByteArray),(⟨#[98,108,111,99,107]⟩:ByteArray),(⟨#[121,105,101,108,100]⟩:ByteArray),(⟨#[101,120,105,116]⟩:ByteArray),(⟨#[116,105,99,107]⟩:ByteArray),(⟨#[114,101,102,105,108,108]⟩:ByteArray),(⟨#[112,117,108,108]⟩:ByteArray),(⟨#[110,105,99,101]⟩:ByteArray),(⟨#[109,97,115,107]⟩:ByteArray)]
theorem znf(w:World):Calls prog 116 #[] w fun z w'=>z=.returned (.slice (some ⟨w.heap.size,0,none⟩) 15 15)/\w'=w.alloc (.cells (qK.map Value.string).toArray 9):=by go_enter func116,ntmps116;go_wp2;go_ret;exact⟨rfl,rfl⟩
abbrev zr0(B j:Nat):Value:=.iface 270 (.agg #[.pointer (some ⟨B,j,none⟩)])
abbrev zrr(B j:Nat):Value:=.iface 272 (.agg #[.pointer (some ⟨B,j,none⟩)])
abbrev ztu(B j:Nat):Value:=.iface 275 (.agg #[.pointer (some ⟨B,j,none⟩)])
def vT(w:World)(l:List Value)(z:Ending)(w':World):Prop:=∃R,z=.returned (.slice (some ⟨R,0,none⟩) l.length l.length)/\w.heap.size<=R/\w'.heap[R]?=some (.cells l.toArray 20 (0,0))/\Below w.heap.size w w'
theorem ye(w:World)(B A:Obj)(l:List Value):vT w l (.returned (.slice (some ⟨w.heap.size+1+1,0,none⟩) l.length l.length)) (((w.alloc B).alloc A).alloc (.cells l.toArray 20)):=by
 have hb:Below w.heap.size w ((w.alloc B).alloc A):=(zk w B).alloc (by simp) A;have hs:((w.alloc B).alloc A).heap.size=w.heap.size+1+1:=by simp
 have D:=heap_alloc_new ((w.alloc B).alloc A) (.cells l.toArray 20);rw[hs]at D;exact⟨_,rfl,by omega,D,zj hb (zk _ _) hb.size⟩
theorem vT.drew{w w':World}{l:List Value}{z:Ending}(h:vT w l z w'):vT w l z w'.drew:=by obtain⟨R,D,B,E,A⟩:=h;exact⟨R,D,B,E,⟨A.os,A.tape,A.output,A.size,A.block⟩⟩
theorem zlm(w:World)(B:Nat)(k a b n m mask:Int)(h:w.heap[B]?=some (.cells #[.int .i64 k,.int .i64 a,.int .i64 b,.int .i64 n,.int .i64 m,.int .u64 mask] 35 (0,0)))(A:k=1∨k=11):
 Calls prog 117 #[.pointer (some ⟨B,0,none⟩)] w (vT w [zr0 B 1,zrr B 3]):=by
 have c0:w.cell? ⟨B,0,none⟩=some (.int .i64 k):=by simp[World.cell?,h]
 have hl:=(zd h).1;clear h;rcases A with rfl | rfl
 all_goals
  go_enter func117,ntmps117;go_upto_region 1 with(fail)
  go_region
 all_goals
  go_wp2;go_ret
  first
   | exact ye w _ _ [zr0 B 1,zrr B 3]
   | exact(ye w _ _ [zr0 B 1,zrr B 3]).drew
   | exact(ye w _ _ [zr0 B 1,zrr B 3]).drew.drew
theorem zi3(w:World)(B:Nat)(a b n m mask:Int)(h:w.heap[B]?=some (.cells #[.int .i64 5,.int .i64 a,.int .i64 b,.int .i64 n,.int .i64 m,.int .u64 mask] 35 (0,0))):
 Calls prog 117 #[.pointer (some ⟨B,0,none⟩)] w (vT w [zr0 B 1,zrr B 3,zrr B 4]):=by
 have c0:w.cell? ⟨B,0,none⟩=some (.int .i64 5):=by simp[World.cell?,h]
 have hl:=(zd h).1;clear h;go_enter func117,ntmps117;go_upto_region 1 with(fail)
 go_region
 all_goals
  go_upto_region 11 with(fail)
  go_region
 all_goals
  go_wp2;go_ret
  first
   | exact ye w _ _ [zr0 B 1,zrr B 3,zrr B 4]
   | exact(ye w _ _ [zr0 B 1,zrr B 3,zrr B 4]).drew
   | exact(ye w _ _ [zr0 B 1,zrr B 3,zrr B 4]).drew.drew
   | exact(ye w _ _ [zr0 B 1,zrr B 3,zrr B 4]).drew.drew.drew
theorem zi4(w:World)(B:Nat)(a b n m mask:Int)(h:w.heap[B]?=some (.cells #[.int .i64 6,.int .i64 a,.int .i64 b,.int .i64 n,.int .i64 m,.int .u64 mask] 35 (0,0))):
 Calls prog 117 #[.pointer (some ⟨B,0,none⟩)] w (vT w [zr0 B 1,zrr B 3,ztu B 5]):=by
 have c0:w.cell? ⟨B,0,none⟩=some (.int .i64 6):=by simp[World.cell?,h]
 have hl:=(zd h).1;clear h;go_enter func117,ntmps117;go_upto_region 1 with(fail)
 go_region
 all_goals
  go_upto_region 13 with(fail)
  go_region
 all_goals
  go_wp2;go_ret
  first
   | exact ye w _ _ [zr0 B 1,zrr B 3,ztu B 5]
   | exact(ye w _ _ [zr0 B 1,zrr B 3,ztu B 5]).drew
   | exact(ye w _ _ [zr0 B 1,zrr B 3,ztu B 5]).drew.drew
   | exact(ye w _ _ [zr0 B 1,zrr B 3,ztu B 5]).drew.drew.drew
end Go.Proofs.YtmgekibncmnmiaaGreatDoor
