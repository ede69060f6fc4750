/- Parts of the proof of the law TopKeeps: contracts of the functions that it reaches, and plain laws of what they compute. Conditions: those in each statement. -/
import Derived.Laws.EntriesVeiled
import Derived.Test.YtmgekibncmnmiaaGreatDoorM33
set_option linter.unusedVariables false
set_option maxRecDepth 100000
set_option maxHeartbeats 4000000
open Go.Proofs.Tryz
namespace Go.Proofs.YtmgekibncmnmiaaGreatDoor
open Go Go.RowKit Go.ChangeShapes Go.WideShapes
section
attribute [local go_sem ↓] Go.wp_at_zero Go.wp_at_succ
theorem zo2(A1 A2 A3:Nat)(l:List Cd)(n:Nat)(a:Option Addr)(cap:Nat)(w:World)(hn:n=l.length)(h5:n<=1000)(hR:zfS w a l)
 (hf:∀W c,Below w.heap.size w W->c∈l->Calls prog 155 #[.agg (zq6 c),.pointer (some ⟨A1,0,none⟩),.pointer (some ⟨A2,0,none⟩)] W fun z P=>ztB z/\Below W.heap.size W P)
 (hg:∀W c d,Below w.heap.size w W->c∈l->d∈l->Calls prog 161 #[.agg (zq6 c),.agg (zq6 d),.pointer (some ⟨A3,0,none⟩)] W fun z P=>IsI z/\Below W.heap.size W P):
 Calls prog 160 #[.slice a n cap,.func (.func 155) #[] #[.pointer (some ⟨A1,0,none⟩),.pointer (some ⟨A2,0,none⟩)],.func (.func 161) #[] #[.pointer (some ⟨A3,0,none⟩)]] w fun z w'=>(∃(k:Nat) (b:Bool),(b=true->k<n)/\z=.returned (.tuple #[.int .i64 k,.bool b]))/\Below w.heap.size w w':=by
 have HR:=zc hR;have HF:=zc hf;have HG:=zc hg;have HN:=zc hn;clear hR hf hg hn;go_enter func160,ntmps160;go_wp2_with fail;go_loopw [8,9,10,11,14] (fun v8 v9 _ _ i wr=>(∃(k at_:Nat) (b:Bool),k<=n/\i=.int .i64 k/\v8=.int .i64 at_/\v9=.bool b/\(b=true->at_<n))/\Below w.heap.size w wr) (fun _ _ _ _ i _=>n-(intOf i).toNat)
 case atStart=>exact⟨⟨0,0,false,by omega,rfl,rfl,rfl,by simp⟩,Below.refl _ _⟩
 case round=>
  obtain⟨⟨k,t,b,hk,rfl,rfl,rfl,Y⟩,hb⟩:=hrel;have g:=zc hb;have N:=zc Y;clear hb Y;by_cases q:k<n
  ·have h1:(k:Int) <(n:Int):=by omega
   have Q:k<l.length:=by rw[<-HN.out];exact q
   obtain⟨c,o⟩:∃c,l[k]?=some c:=⟨_,List.getElem?_eq_getElem Q⟩
   obtain⟨r,I,E,c0,c1,c2,c3⟩:=HR.out.behind g.out k c o;have h4:=zc I;subst I;have HC:=zc o;have HM:=zc (List.mem_of_getElem? o);obtain⟨w1,M⟩:=zh (wr.alloc (.cells (zq6 c) 191))
   have h:Below w.heap.size w w1:=by rw[M];exact g.out.alloc g.out.size _
   have T:w1.heap[wr.heap.size]?=some (.cells (zq6 c) 191 (0,0)):=by rw[M];exact heap_alloc_new wr _
   obtain⟨X,j⟩:=zh wr.heap.size
   rw[<-j]at T;have Z:=zc T;have R:=zc h;have h2:=zc (show w.heap.size<=X by rw[j];exact g.out.size);clear o T h;go_wp2_with fail;rw[<-j];rw[show wr.alloc (.cells (zq6 c) 191)=w1 from M.symm];clear M j c0 c1 c2 c3 E;refine(HF.out w1 c R.out HM.out).mono ?_;rintro z U ⟨⟨ok,rfl⟩,O⟩;have H:=zc (zj R.out O R.out.size);have D:=(O.block X (zd Z.out).1).trans Z.out;have h3:=zc D;clear O;cases ok with
   | false=>
    clear D;go_wp2;go_roundw
    case rel=>exact⟨⟨k+1,t,b,by omega,by go_num,rfl,rfl,N.out⟩,H.out⟩
    case measure=>simp[intOf];omega
   | true=>
    have v:U.cell? ⟨X,0,none⟩=some (.int .i64 c.n):=by simp[World.cell?,D]
    have L:U.cell? ⟨X,1,none⟩=some (.int .u64 c.w):=by simp[World.cell?,D]
    have u:U.cell? ⟨X,2,none⟩=some (.int .u64 c.m):=by simp[World.cell?,D]
    have K:U.cell? ⟨X,3,none⟩=some (.bool c.r):=by simp[World.cell?,D]
    have G:=(zd D).1;clear D;go_upto_region 6 with(fail)
    go_cut [44]from 23 to 43 (fun F wx=>(∃b,F=.bool b)/\Below w.heap.size w wx)
    case first=>
     cases b with
     | false=>
      go_wp2_with fail;go_quiet (fail)
      all_goals
       go_wp2_with fail;go_meet
       case rel=>exact⟨⟨_,rfl⟩,zp H.out nq⟩
     | true=>
      have V:=N.out rfl;have f:t<l.length:=by rw[<-HN.out];exact V
      have h0:(t:Int) <(n:Int):=by omega
      obtain⟨d,hd⟩:∃d,l[t]?=some d:=⟨_,List.getElem?_eq_getElem f⟩
      obtain⟨r',I,E,d0,d1,d2,d3⟩:=HR.out.behind H.out t d hd;obtain rfl:r'=r:=by cases I;rfl
      have S:=zc (List.mem_of_getElem? hd);clear hd V f I;go_wp2_with fail;go_region_held3 (fun w'=>w'.cell? ⟨X,0,none⟩=some (.int .i64 c.n)/\w'.cell? ⟨X,1,none⟩=some (.int .u64 c.w)/\w'.cell? ⟨X,2,none⟩=some (.int .u64 c.m)/\w'.cell? ⟨X,3,none⟩=some (.bool c.r)/\w'.cell? ⟨r',t*4,none⟩=some (.int .i64 d.n)/\w'.cell? ⟨r',t*4+1,none⟩=some (.int .u64 d.w)/\w'.cell? ⟨r',t*4+2,none⟩=some (.int .u64 d.m)/\w'.cell? ⟨r',t*4+3,none⟩=some (.bool d.r)) (go_keep)
       (first
        | (
         go_at_call 161;refine(HG.out _ c d (zv H.out) HM.out S.out).mono ?_;rintro z x ⟨⟨n3,rfl⟩,B⟩;have A:Hid (Below U.heap.size U x):=zc ⟨B.os,B.tape,B.output,B.size,B.block⟩;have J:Hid (Below w.heap.size w x):=zc (zj H.out A.out H.out.size);replace v:=(A.out.cell (p:=⟨X,0,none⟩) G).trans v;replace L:=(A.out.cell (p:=⟨X,1,none⟩) G).trans L;replace u:=(A.out.cell (p:=⟨X,2,none⟩) G).trans u;replace K:=(A.out.cell (p:=⟨X,3,none⟩) G).trans K;replace d0:=(A.out.cell (p:=⟨r',t*4,none⟩) E).trans d0;replace d1:=(A.out.cell (p:=⟨r',t*4+1,none⟩) E).trans d1
         replace d2:=(A.out.cell (p:=⟨r',t*4+2,none⟩) E).trans d2;replace d3:=(A.out.cell (p:=⟨r',t*4+3,none⟩) E).trans d3;replace G:=zf G A.out.size;replace E:=zf E A.out.size;clear B)
        | (
         go_at_call 210;refine(zjT _ _ _).mono ?_;rintro z w4 ⟨⟨n4,-,rfl⟩,s⟩;obtain rfl:=s.symm)
        | (
         go_at_call 209;refine(znq n3 n4 _ _ _ (by simp[World.cell?_alloc_new]) (by simp[World.cell?_alloc_new])).mono ?_;rintro z w5 ⟨⟨n5,rfl⟩,C⟩;obtain rfl:=C.symm))
      all_goals
       go_wp2_with fail;go_meet
       case rel=>exact⟨⟨_,rfl⟩,zj J.out (zk x _) J.out.size⟩
    case rest=>
     obtain⟨⟨b2,rfl⟩,B⟩:=hcut;have J:=zc B;clear B v L u K G;cases b2 with
     | true=>
      go_wp2;go_roundw
      case rel=>exact⟨⟨k+1,k,true,by omega,by go_num,rfl,rfl,fun _=>by omega⟩,J.out⟩
      case measure=>simp[intOf];omega
     | false=>
      go_wp2;go_roundw
      case rel=>exact⟨⟨k+1,t,b,by omega,by go_num,rfl,rfl,N.out⟩,J.out⟩
      case measure=>simp[intOf];omega
  ·have y:k=n:=by omega
   subst y;go_wp2;go_ret2;exact⟨⟨t,b,N.out,rfl⟩,g.out⟩
theorem zhD(l:List Cd)(n:Nat)(a:Option Addr)(cap:Nat)(x y:Int)(here:Int)(w:World)(hn:n=l.length)(Q:n<=1000)(hR:zfS w a l)(hm:∀c∈l,0<=c.m/\c.m<=18446744073709551615)(hh:0<=here/\here<64):
 Calls prog 103 #[.slice a n cap,.int .u64 x,.int .u64 y,.int .i64 here] w fun z w'=>(∃(k:Nat) (b:Bool),(b=true->k<n)/\z=.returned (.tuple #[.int .i64 k,.bool b]))/\Below w.heap.size w w':=by
 have h1:=zc (fun W=>znr x y W);have HR:=zc hR;have HN:=zc hn;have HM:=zc hm;have HH:=zc hh;clear hR hn hm hh;go_enter func103,ntmps103;go_wp2_with fail;refine(h1.out _).mono ?_;rintro z w2 ⟨⟨I,rfl⟩,S⟩;obtain rfl:=S.symm;go_upto_region 2 with(fail)
 obtain⟨A,J⟩:=zh ((w.alloc (.cells #[.int .i64 here] 3)).alloc (.cells #[.int .u64 I] 33))
 obtain⟨H,hH⟩:=zh w.heap.size
 obtain⟨G,hG⟩:=zh (w.heap.size+1)
 have r:Below w.heap.size w A:=by rw[J];exact((Below.refl _ w).alloc (zg _) _).alloc (by simp) _
 have o:A.cell? ⟨H,0,none⟩=some (.int .i64 here):=by rw[J,hH];exact zx (t:=3) ((Below.heap_alloc _ _ _ (by simp)).trans (heap_alloc_new w _))
 have s:A.cell? ⟨G,0,none⟩=some (.int .u64 I):=by have R:=heap_alloc_new (w.alloc (.cells #[.int .i64 here] 3)) (.cells #[.int .u64 I] 33);rw[World.size_alloc]at R;rw[J,hG];exact zx R
 have v:=zc r;have q:=zc o;have P:=zc s;rw[<-J,<-hG,<-hH];clear J hG hH r o s;go_upto_region 5 with(fail)
 obtain⟨K,hK⟩:=zh A.heap.size
 obtain⟨M,hM⟩:=zh (A.heap.size+1)
 obtain⟨D,E⟩:=zh ((A.alloc (.cells #[.func (.func 155) #[] #[.pointer (some ⟨G,0,none⟩),.pointer (some ⟨H,0,none⟩)]] 254)).alloc (.cells #[.func (.func 158) #[] #[]] 256))
 have T:Below A.heap.size A D:=by rw[E];exact((Below.refl _ A).alloc (zg _) _).alloc (by simp) _
 have X:D.cell? ⟨K,0,none⟩=some (.func (.func 155) #[] #[.pointer (some ⟨G,0,none⟩),.pointer (some ⟨H,0,none⟩)]):=by rw[E,hK];exact zx (t:=254) ((Below.heap_alloc _ _ _ (by simp)).trans (heap_alloc_new A _))
 have V:D.cell? ⟨M,0,none⟩=some (.func (.func 158) #[] #[]):=by have R:=heap_alloc_new (A.alloc (.cells #[.func (.func 155) #[] #[.pointer (some ⟨G,0,none⟩),.pointer (some ⟨H,0,none⟩)]] 254)) (.cells #[.func (.func 158) #[] #[]] 256);rw[World.size_alloc]at R;rw[E,hM];exact zx R
 rw[<-E,<-hM,<-hK];have g:=zc (zj v.out T v.out.size);have L:=zc X;have u:=zc V;have N:=zc ((T.cell (p:=⟨H,0,none⟩) (World.block_lt_of_cell? _ _ q.out)).trans q.out);have O:=zc ((T.cell (p:=⟨G,0,none⟩) (World.block_lt_of_cell? _ _ P.out)).trans P.out);have h4:Hid (∀W c,Below D.heap.size D W->c∈l->Calls prog 155 #[.agg (zq6 c),.pointer (some ⟨G,0,none⟩),.pointer (some ⟨H,0,none⟩)] W fun z W'=>ztB z/\Below W.heap.size W W'):=zc fun W c hb Z=>
  zjU c I here G H W (HM.out c Z) HH.out ((hb.cell (p:=⟨G,0,none⟩) (World.block_lt_of_cell? _ _ O.out)).trans O.out) ((hb.cell (p:=⟨H,0,none⟩) (World.block_lt_of_cell? _ _ N.out)).trans N.out)
 have h6:Hid (∀W c,Below D.heap.size D W->c∈l->Calls prog 157 #[.agg (zq6 c),.pointer (some ⟨K,0,none⟩),.pointer (some ⟨G,0,none⟩)] W fun z W'=>ztB z/\Below W.heap.size W W'):=zc fun W c hb Z=>
  zoh c I here K G H W (HM.out c Z) HH.out ((hb.cell (p:=⟨K,0,none⟩) (World.block_lt_of_cell? _ _ L.out)).trans L.out) ((hb.cell (p:=⟨G,0,none⟩) (World.block_lt_of_cell? _ _ O.out)).trans O.out) ((hb.cell (p:=⟨H,0,none⟩) (World.block_lt_of_cell? _ _ N.out)).trans N.out)
 have j:=zc (HR.out.behind g.out);have h9:=zc (zo1 K G l n a cap D HN.out Q j.out h6.out (fun W c d hb Z hd=>zjV c d W));have h0:=zc (fun W (hb:Below D.heap.size D W)=>zo2 G H M l n a cap W HN.out Q (j.out.behind hb) (fun W2 c R Z=>h4.out W2 c (zj hb R hb.size) Z) (fun W2 c d R Z hd=>zoi c d M W2 (((zj hb R hb.size).cell (p:=⟨M,0,none⟩) (World.block_lt_of_cell? _ _ u.out)).trans u.out)));have cK:=X;have cM:=V;clear E hK hM T X V;have f:=World.block_lt_of_cell? _ _ cK;have h7:=World.block_lt_of_cell? _ _ cM;go_wp2_with fail;refine h9.out.mono ?_;rintro z w5 ⟨⟨k,b,Y,rfl⟩,B⟩
 have h:=zc (zj g.out B g.out.size);have h8:=zc Y;cases b with
 | true=>
  clear B Y;go_wp2;go_ret2;exact⟨⟨k,true,fun _=>h8.out (by first | trivial | rfl),rfl⟩,h.out⟩
 | false=>
  have h5:=zc (h0.out w5 B);have hf:=(B.cell (p:=⟨K,0,none⟩) f).trans cK;have ha:=zf f B.size;clear B Y cK cM f h7;go_wp2_with fail;refine h5.out.mono ?_;rintro z w6 ⟨⟨k2,b2,U,rfl⟩,C⟩;have h3:=zc (zj h.out C h.out.size);have F:=zc U;clear C U;go_wp2;go_ret2;exact⟨⟨k2,b2,F.out,rfl⟩,h3.out⟩
end
end Go.Proofs.YtmgekibncmnmiaaGreatDoor
