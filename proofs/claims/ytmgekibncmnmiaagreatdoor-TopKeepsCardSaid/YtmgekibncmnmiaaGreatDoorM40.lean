/- Parts of the proof of the law TopKeeps: contracts of the functions that it reaches, and plain laws of what they compute. Conditions: those in each statement. -/
import Derived.Test.YtmgekibncmnmiaaGreatDoorM30
import Derived.Test.YtmgekibncmnmiaaGreatDoorM37
set_option linter.unusedVariables false
set_option maxRecDepth 100000
set_option maxHeartbeats 4000000
open Go.Proofs.Tryz
namespace Go.Proofs.YtmgekibncmnmiaaGreatDoor
open Go Go.RowKit Go.ChangeShapes Go.WideShapes
theorem zhx(s body:ByteArray)(lines:List ByteArray)(A:List Ev)(m:Nat)(w:World)(hs:s.size<4294967281)(O:body.size<4294967281)(h7:s.toList.isEmpty=false)(hcut:Lib.hasSuffix s.data.toList [10]=true)(E:(⟨(Lib.trimSuffix s.data.toList [10]).toArray⟩:ByteArray)=body)
 (hc:Lib.countB body ⟨#[10]⟩+1=lines.length) (hp:Lib.splitB ⟨#[10]⟩ 0 (Lib.countB body ⟨#[10]⟩) body=lines) (hm:lines.length=m) (h8:m<=100) (l:A.length=m)
 (hO:∀W (i:Nat) t e,Below w.heap.size w W->lines[i]?=some t->A[i]?=some e->Calls prog 63 #[.string t] W fun z w'=>z=.returned (.tuple #[.agg #[.int .i64 e.kind,.int .i64 e.a,.int .i64 e.b,.int .i64 e.n,.int .i64 e.m,.int .u64 e.mask],.int .i64 0])/\Below W.heap.size W w'):
 Calls prog 24 #[.string s] w fun z w'=>∃a c,z=.returned (.tuple #[.slice a m c,.int .i64 0,.int .i64 0])/\w'.ownsRow w.heap.size 35 6 (.slice a m c) m (xI A)/\Below w.heap.size w w':=by
 obtain⟨i0,hi,K,h4,P⟩:=info_parts zi5;have h3:=zc (Tryz.strings_CutSuffix s ⟨#[10]⟩ w (by omega));have C:=zc (zeV body 10 lines w O hc hp);have HO:=zc hO;have M:=zc (And.intro hcut (And.intro E (And.intro hm l)));clear hs O hc hp hO hcut E hm l;go_enter func24,ntmps24;go_wp2_with fail;refine h3.out.mono ?_;rintro z w2 ⟨hz,x⟩;obtain rfl:=x.symm;obtain rfl:z=.returned (.tuple #[.string body,.bool true]):=by rw[hz];have h1:=M.out.1;have h2:=M.out.2.1;show Ending.returned (.tuple #[.string ⟨(Lib.trimSuffix s.data.toList [10]).toArray⟩,.bool (Lib.hasSuffix s.data.toList [10])])=_;rw[h1,h2]
 clear hz;go_wp2_with fail;refine C.out.mono ?_;rintro z N ⟨rfl,H⟩;obtain⟨R,v⟩:=zh w.heap.size
 have U:N.heap[R]?=some (.cells (lines.map Value.string).toArray 9 (0,0)):=by rw[H,v];exact heap_alloc_new w _
 have Y:Below w.heap.size w N:=by rw[H];exact zk w _
 have Z:=zc (And.intro U (And.intro Y v));rw[<-v,M.out.2.2.1];clear H U Y v;go_wp2_with fail;go_loopw [8,9,10,11,12,27] (fun v8 _ _ _ _ i wr=>∃(k:Nat) (r:Option Addr) (p:Nat),k<=m/\i=.int .i64 k/\v8=.slice r k p/\wr.ownsRow N.heap.size 35 6 (.slice r k p) k (xI (A.take k))/\Below N.heap.size N wr) (fun _ _ _ _ _ i _=>m-(intOf i).toNat)
 case atStart=>exact⟨0,none,0,by omega,rfl,rfl,by simpa[xI]using World.ownsRow_nil _ _ _ _,Below.refl _ _⟩
 case round=>
  obtain⟨k,r,p,hk,rfl,rfl,G,hb⟩:=hrel;have f:=zc G;have HB:=zc hb;have o:=zc (zj Z.out.2.1 hb Z.out.2.1.size);clear G hb;by_cases V:k<m
  ·have h9:(k:Int) <(m:Int):=by omega
   obtain⟨t,T⟩:∃t,lines[k]?=some t:=⟨_,List.getElem?_eq_getElem (by rw[M.out.2.2.1];exact V)⟩
   obtain⟨e,he⟩:∃e,A[k]?=some e:=⟨_,List.getElem?_eq_getElem (by rw[M.out.2.2.2];exact V)⟩
   have I:wr.heap[R]?=some (.cells (lines.map Value.string).toArray 9 (0,0)):=(HB.out.block R (zd Z.out.1).1).trans Z.out.1;have h5:wr.cell? ⟨R,k,none⟩=some (.string t):=by simp[World.cell?,I,T]
   have Q:=(zd I).1;have d:=zc (HO.out wr k t e o.out T he);have HE:=zc he;clear T he I;obtain⟨lb,ha⟩:∃lb,((k:Int) == (m:Int) -1)=lb:=⟨_,rfl⟩
   go_wp2_with fail;refine d.out.mono ?_;rintro z q ⟨rfl,J⟩;have j:=zc (zj HB.out J HB.out.size);have X:=zc (yY f.out J);have h6:=j.out.size;clear J h5 Q;cases lb
   all_goals
    go_wp2_with (at_builtin;go_loud (refine wpList_append_own _ rfl _ _ 24 rfl N.heap.size 35 i0 (.agg #[.int .i64 0,.int .i64 0,.int .i64 0,.int .i64 0,.int .i64 0,.int .u64 0]) 6 48 underlying24 hi K h4 P rfl (by decide) _ k (xI (A.take k)) rfl ((X.out.alloc _).alloc _) ⟨q.heap.size+1,0,none⟩ 1 1 [.int .i64 e.kind,.int .i64 e.a,.int .i64 e.b,.int .i64 e.n,.int .i64 e.m,.int .u64 e.mask] rfl rfl ?c1 ?c2 ?c3 ?c4 ?c5 ?_))
    case c1=>
     have h:=heap_alloc_new (q.alloc (.cells #[.int .i64 e.kind,.int .i64 e.a,.int .i64 e.b,.int .i64 e.n,.int .i64 e.m,.int .u64 e.mask] 35)) (.cells #[.int .i64 e.kind,.int .i64 e.a,.int .i64 e.b,.int .i64 e.n,.int .i64 e.m,.int .u64 e.mask] 35);rw[show(q.alloc (.cells #[.int .i64 e.kind,.int .i64 e.a,.int .i64 e.b,.int .i64 e.n,.int .i64 e.m,.int .u64 e.mask] 35)).heap.size=q.heap.size+1 by simp]at h;exact World.news_of_block (cs:=#[.int .i64 e.kind,.int .i64 e.a,.int .i64 e.b,.int .i64 e.n,.int .i64 e.m,.int .u64 e.mask]) (t:=35) (fr:=(0,0)) h
    case c2=>intro u hu;simp at hu;rcases hu with rfl | rfl | rfl | rfl | rfl | rfl <;> rfl
    case c3=>unfold maxLen;omega
    case c4=>omega
    case c5=>simp;omega
    intro v' w6 B D _;have F:=zc (Below.grown ((j.out.alloc h6 (.cells #[.int .i64 e.kind,.int .i64 e.a,.int .i64 e.b,.int .i64 e.n,.int .i64 e.m,.int .u64 e.mask] 35)).alloc (by simp;omega) (.cells #[.int .i64 e.kind,.int .i64 e.a,.int .i64 e.b,.int .i64 e.n,.int .i64 e.m,.int .u64 e.mask] 35)) D (by simp;omega) (fun kk y=>(X.out.lt kk y).1));have S:=zc B;rcases B.2 with⟨_,h0⟩ | ⟨g,cap,cur,hv,_⟩
    ·omega
    subst hv;clear B D;go_wp2_with fail;go_roundw
    case rel=>exact⟨k+1,some ⟨g,0,none⟩,cap,by omega,by go_num,rfl,by rw[List.take_add_one,HE.out];show World.ownsRow _ _ _ _ _ _ (xI (A.take k++ [e]));rw[zi6];exact S.out,F.out⟩
    case measure=>simp[intOf];omega
  ·have L:k=m:=by omega
   subst L;go_wp2;go_ret3;have T:A.take k=A:=by rw[<-M.out.2.2.2,List.take_length]
   exact⟨r,p,rfl,by have h:=f.out;rw[T]at h;exact zaf h Z.out.2.1.size,o.out⟩
def uz(w:World):Prop:=Lib.TabIs prog w "internal/strconv.uint64pow10" .u64 Lib.pow10Tab
theorem uz.stays{w w':World}(h:uz w)(hb:Below w.heap.size w w'):uz w':=zeW h hb
structure zsq(t:ByteArray)(v:Int):Prop where
 size:t.size<=9223372036854775806
 parse:Lib.parseIntB 64 t.data.toList=.ok v
 lo: -9223372036854775808<=v
 hi:v<=9223372036854775807
 itoa:(⟨(Lib.itoa v).toArray⟩:ByteArray)=t
theorem zsq.zsh{t:ByteArray}{v:Int}(h:zsq t v){w:World}(A:uz w):∀W,Below w.heap.size w W->Calls prog 176 #[.string t] W fun z w'=>z=.returned (.tuple #[.int .i64 v,.bool true])/\Below W.heap.size W w':=
 fun W hb=>zi2 t v W h.size h.parse h.lo h.hi h.itoa (A.stays hb)
theorem vV{w:World}{B:Nat}{cs:Array Value}{t:TypeId}(h:w.heap[B]?=some (.cells cs t (0,0))){j:Nat}{v:Value}(A:cs[j]?=some v):w.cell? ⟨B,j,none⟩=some v/\B<w.heap.size/\w.frozen? ⟨B,j,none⟩=false:=
 ⟨by simp[World.cell?,h,A],(zd h).1,by simp[World.frozen?,h]⟩
theorem zfP(s word G I:ByteArray)(k a n:Int)(w:World)(N:uz w)(M:k=1∨k=11)(hs:s.size<4294967281)(U:Lib.countB s ⟨#[32]⟩+1=3)(hp:Lib.splitB ⟨#[32]⟩ 0 (Lib.countB s ⟨#[32]⟩) s= [word,G,I])(J:Lib.idxOfS (qK.take 15) word=k-1)(O:0<=a)(T:zsq G a)(R:zsq I n):
 Calls prog 63 #[.string s] w fun z w'=>z=.returned (.tuple #[.agg #[.int .i64 k,.int .i64 a,.int .i64 0,.int .i64 n,.int .i64 0,.int .u64 0],.int .i64 0])/\Below w.heap.size w w':=by
 refine zea s [word,G,I] word k (fun B=> [zr0 B 1,zrr B 3]) [(1,.int .i64 a),(3,.int .i64 n)] 2 a 0 n 0 0 w hs U hp rfl (by decide) rfl J (by omega) (fun _=>rfl) rfl rfl ?_ ?_
 ·intro B W hb H;exact zlm W B k 0 0 0 0 0 H M
 ·intro B W i f t x hb H E A D
  match i,E,A,D with
  | 0,E,A,D=>
   obtain rfl:=Option.some.inj E;obtain rfl:=Option.some.inj A;obtain rfl:=Option.some.inj D;obtain⟨c,l,z⟩:=vV (v:=.int .i64 0) H (j:=1) rfl;exact zbo G a 0 W B 1 O c l z (T.zsh (N.stays hb))
  | 1,E,A,D=>
   obtain rfl:=Option.some.inj E;obtain rfl:=Option.some.inj A;obtain rfl:=Option.some.inj D;obtain⟨c,l,z⟩:=vV (v:=.int .i64 0) H (j:=3) rfl;exact vU I n 0 W B 3 c l z (R.zsh (N.stays hb))
  | i+2,E,A,D=>simp at E
theorem zoe(s word H I J:ByteArray)(k a n m:Int)(w:World)(N:uz w)(O:k=5)(hs:s.size<4294967281)(X:Lib.countB s ⟨#[32]⟩+1=4)(hp:Lib.splitB ⟨#[32]⟩ 0 (Lib.countB s ⟨#[32]⟩) s= [word,H,I,J])(M:Lib.idxOfS (qK.take 15) word=k-1)(T:0<=a)(V:zsq H a)(U:zsq I n)(R:zsq J m):
 Calls prog 63 #[.string s] w fun z w'=>z=.returned (.tuple #[.agg #[.int .i64 k,.int .i64 a,.int .i64 0,.int .i64 n,.int .i64 m,.int .u64 0],.int .i64 0])/\Below w.heap.size w w':=by
 refine zea s [word,H,I,J] word k (fun B=> [zr0 B 1,zrr B 3,zrr B 4]) [(1,.int .i64 a),(3,.int .i64 n),(4,.int .i64 m)] 3 a 0 n m 0 w hs X hp rfl (by decide) rfl M (by omega) (fun _=>rfl) rfl rfl ?_ ?_
 ·intro B W hb G;subst O;exact zi3 W B 0 0 0 0 0 G
 ·intro B W i f t x hb G E A D
  match i,E,A,D with
  | 0,E,A,D=>
   obtain rfl:=Option.some.inj E;obtain rfl:=Option.some.inj A;obtain rfl:=Option.some.inj D;obtain⟨c,l,z⟩:=vV (v:=.int .i64 0) G (j:=1) rfl;exact zbo H a 0 W B 1 T c l z (V.zsh (N.stays hb))
  | 1,E,A,D=>
   obtain rfl:=Option.some.inj E;obtain rfl:=Option.some.inj A;obtain rfl:=Option.some.inj D;obtain⟨c,l,z⟩:=vV (v:=.int .i64 0) G (j:=3) rfl;exact vU I n 0 W B 3 c l z (U.zsh (N.stays hb))
  | 2,E,A,D=>
   obtain rfl:=Option.some.inj E;obtain rfl:=Option.some.inj A;obtain rfl:=Option.some.inj D;obtain⟨c,l,z⟩:=vV (v:=.int .i64 0) G (j:=4) rfl;exact vU J m 0 W B 4 c l z (R.zsh (N.stays hb))
  | i+3,E,A,D=>simp at E
theorem zjQ(s word H I:ByteArray)(k a n:Int)(w:World)(N:uz w)(M:k=6)(hs:s.size<4294967281)(U:Lib.countB s ⟨#[32]⟩+1=4)(hp:Lib.splitB ⟨#[32]⟩ 0 (Lib.countB s ⟨#[32]⟩) s= [word,H,I,⟨#[48]⟩])(J:Lib.idxOfS (qK.take 15) word=k-1)(O:0<=a)(T:zsq H a)(R:zsq I n):
 Calls prog 63 #[.string s] w fun z w'=>z=.returned (.tuple #[.agg #[.int .i64 k,.int .i64 a,.int .i64 0,.int .i64 n,.int .i64 0,.int .u64 1],.int .i64 0])/\Below w.heap.size w w':=by
 refine zea s [word,H,I,⟨#[48]⟩] word k (fun B=> [zr0 B 1,zrr B 3,ztu B 5]) [(1,.int .i64 a),(3,.int .i64 n),(5,.int .u64 1)] 3 a 0 n 0 1 w hs U hp rfl (by decide) rfl J (by omega) (fun _=>rfl) rfl rfl ?_ ?_
 ·intro B W hb G;subst M;exact zi4 W B 0 0 0 0 0 G
 ·intro B W i f t x hb G E A D
  match i,E,A,D with
  | 0,E,A,D=>
   obtain rfl:=Option.some.inj E;obtain rfl:=Option.some.inj A;obtain rfl:=Option.some.inj D;obtain⟨c,l,z⟩:=vV (v:=.int .i64 0) G (j:=1) rfl;exact zbo H a 0 W B 1 O c l z (T.zsh (N.stays hb))
  | 1,E,A,D=>
   obtain rfl:=Option.some.inj E;obtain rfl:=Option.some.inj A;obtain rfl:=Option.some.inj D;obtain⟨c,l,z⟩:=vV (v:=.int .i64 0) G (j:=3) rfl;exact vU I n 0 W B 3 c l z (R.zsh (N.stays hb))
  | 2,E,A,D=>
   obtain rfl:=Option.some.inj E;obtain rfl:=Option.some.inj A;obtain rfl:=Option.some.inj D;obtain⟨c,l,z⟩:=vV (v:=.int .u64 0) G (j:=5) rfl;exact znm 0 W B 5 c l z
  | i+3,E,A,D=>simp at E
theorem ze0:zsq ⟨#[48]⟩ 0:=⟨by decide,by decide+kernel,by decide,by decide,by decide+kernel⟩
theorem zhy:zsq ⟨#[49,48,50,52]⟩ 1024:=⟨by decide,by decide+kernel,by decide,by decide,by decide+kernel⟩
theorem zoq:zsq ⟨#[49]⟩ 1:=⟨by decide,by decide+kernel,by decide,by decide,by decide+kernel⟩
theorem zoQ:zsq ⟨#[51,48]⟩ 30:=⟨by decide,by decide+kernel,by decide,by decide,by decide+kernel⟩
theorem zjc:zsq ⟨#[49,48]⟩ 10:=⟨by decide,by decide+kernel,by decide,by decide,by decide+kernel⟩
theorem zo0:zsq ⟨#[50]⟩ 2:=⟨by decide,by decide+kernel,by decide,by decide,by decide+kernel⟩
def znn:ByteArray:=⟨#[103,114,111,117,112,32,48,32,49,48,50,52,10,103,114,111,117,112,32,48,32,49,48,50,52,10,113,117,111,116,97,32,49,32,51,48,32,49,48,10,115,112,97,119,110,32,49,32,48,32,48,10,115,112,97,119,110,32,50,32,48,32,48,10,116,105,99,107,32,48,32,49,48,10,116,105,99,107,32,48,32,49,48,10]⟩
def zoR:ByteArray:=⟨#[103,114,111,117,112,32,48,32,49,48,50,52,10,103,114,111,117,112,32,48,32,49,48,50,52,10,113,117,111,116,97,32,49,32,51,48,32,49,48,10,115,112,97,119,110,32,49,32,48,32,48,10,115,112,97,119,110,32,50,32,48,32,48,10,116,105,99,107,32,48,32,49,48,10,116,105,99,107,32,48,32,49,48]⟩
def zoS:List ByteArray:= [⟨#[103,114,111,117,112,32,48,32,49,48,50,52]⟩,⟨#[103,114,111,117,112,32,48,32,49,48,50,52]⟩,⟨#[113,117,111,116,97,32,49,32,51,48,32,49,48]⟩,⟨#[115,112,97,119,110,32,49,32,48,32,48]⟩,⟨#[115,112,97,119,110,32,50,32,48,32,48]⟩,⟨#[116,105,99,107,32,48,32,49,48]⟩,⟨#[116,105,99,107,32,48,32,49,48]⟩]
theorem zhz(w:World)(B:uz w):Calls prog 24 #[.string znn] w fun z w'=>∃a c,z=.returned (.tuple #[.slice a 7 c,.int .i64 0,.int .i64 0])/\w'.ownsRow w.heap.size 35 6 (.slice a 7 c) 7 (xI xp)/\Below w.heap.size w w':=by
 refine zhx znn zoR zoS xp 7 w (by decide) (by decide) (by decide+kernel) (by decide+kernel) (by decide+kernel) (by decide+kernel) (by decide+kernel) rfl (by decide) rfl ?_;intro W i t e hb A he
 match i,A,he with
 | 0,A,he=>
  obtain rfl:=Option.some.inj A;obtain rfl:=Option.some.inj he;exact zfP _ ⟨#[103,114,111,117,112]⟩ _ _ 1 0 1024 W (B.stays hb) (by omega) (by decide) (by decide+kernel) (by decide+kernel) (by decide+kernel) (by decide) ze0 zhy
 | 1,A,he=>
  obtain rfl:=Option.some.inj A;obtain rfl:=Option.some.inj he;exact zfP _ ⟨#[103,114,111,117,112]⟩ _ _ 1 0 1024 W (B.stays hb) (by omega) (by decide) (by decide+kernel) (by decide+kernel) (by decide+kernel) (by decide) ze0 zhy
 | 2,A,he=>
  obtain rfl:=Option.some.inj A;obtain rfl:=Option.some.inj he;exact zoe _ ⟨#[113,117,111,116,97]⟩ _ _ _ 5 1 30 10 W (B.stays hb) rfl (by decide) (by decide+kernel) (by decide+kernel) (by decide+kernel) (by decide) zoq zoQ zjc
 | 3,A,he=>
  obtain rfl:=Option.some.inj A;obtain rfl:=Option.some.inj he;exact zjQ _ ⟨#[115,112,97,119,110]⟩ _ _ 6 1 0 W (B.stays hb) rfl (by decide) (by decide+kernel) (by decide+kernel) (by decide+kernel) (by decide) zoq ze0
 | 4,A,he=>
  obtain rfl:=Option.some.inj A;obtain rfl:=Option.some.inj he;exact zjQ _ ⟨#[115,112,97,119,110]⟩ _ _ 6 2 0 W (B.stays hb) rfl (by decide) (by decide+kernel) (by decide+kernel) (by decide+kernel) (by decide) zo0 ze0
 | 5,A,he=>
  obtain rfl:=Option.some.inj A;obtain rfl:=Option.some.inj he;exact zfP _ ⟨#[116,105,99,107]⟩ _ _ 11 0 10 W (B.stays hb) (by omega) (by decide) (by decide+kernel) (by decide+kernel) (by decide+kernel) (by decide) ze0 zjc
 | 6,A,he=>
  obtain rfl:=Option.some.inj A;obtain rfl:=Option.some.inj he;exact zfP _ ⟨#[116,105,99,107]⟩ _ _ 11 0 10 W (B.stays hb) (by omega) (by decide) (by decide+kernel) (by decide+kernel) (by decide+kernel) (by decide) ze0 zjc
 | i+7,A,he=>simp[xp]at he
end Go.Proofs.YtmgekibncmnmiaaGreatDoor
