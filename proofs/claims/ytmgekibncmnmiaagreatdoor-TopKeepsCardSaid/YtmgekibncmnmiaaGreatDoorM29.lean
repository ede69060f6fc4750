/- Parts of the proof of the law TopKeeps: contracts of the functions that it reaches, and plain laws of what they compute. Conditions: those in each statement. -/
import Derived.Maps.AppendAt
import Derived.Test.YtmgekibncmnmiaaGreatDoorM26
set_option linter.unusedVariables false
set_option maxRecDepth 100000
set_option maxHeartbeats 4000000
open Go.Proofs.Tryz
namespace Go.Proofs.YtmgekibncmnmiaaGreatDoor
open Go Go.RowKit Go.ChangeShapes Go.WideShapes
section
attribute [local go_sem ↓] Go.wp_at_zero Go.wp_at_succ
theorem zcQ(n t:Nat)(w:World)(ht:t<=20)(hn:n<=5)(hp:∀k,k<=t->n ^ k<=95367431640625):
 Calls prog 134 #[.int .u64 n,.int .i64 t] w fun e w'=>e=.returned (.int .u64 ((n ^ t:Nat):Int))/\w'=w:=by
 have I:=zc hp;clear hp;go_enter func134,ntmps134;go_wp2_with fail;go_loopw [5,7] (fun p i wr=>∃k:Nat,k<=t/\p=.int .u64 ((n ^ k:Nat):Int)/\i=.int .i64 k/\wr=w) (fun _ i _=>t-(intOf i).toNat)
 case atStart=>exact⟨0,by omega,by simp,rfl,rfl⟩
 case round=>
  obtain⟨k,hk,rfl,rfl,rfl⟩:=hrel;by_cases h0:k<t
  ·obtain⟨p,hp⟩:=zh (n ^ k)
   have D:n ^ (k+1)=p*n:=by rw[hp,Nat.pow_succ]
   have E:=I.out (k+1) (by omega);rw[D]at E;have B:(p:Int)*n=((p*n:Nat):Int):=(Int.natCast_mul p n).symm;have h3:0<=(p:Int)*n/\(p:Int)*n<=95367431640625:=by rw[B];omega
   have G:=zc D;have H:=zc B;rw[<-hp];clear hp D E B;go_wp2;go_roundw
   case rel=>
    refine⟨k+1,by omega,?_,by go_num,by first | rfl | trivial⟩;rw[G.out,<-H.out]
   case measure=>simp[intOf];omega
  ·have A:k=t:=by omega
   subst A;go_wp2;go_ret;exact⟨rfl,rfl⟩
def xq(k:Int):Int:=if k<0 then((1024*5 ^ (-k).toNat/4 ^ (-k).toNat:Nat):Int)else((1024*4 ^ k.toNat/5 ^ k.toNat:Nat):Int)
theorem zdw:∀k:Fin 21,2<=(1024*5 ^ k.1/4 ^ k.1:Nat)/\(1024*5 ^ k.1/4 ^ k.1:Nat)<=262144/\5 ^ k.1<=95367431640625/\4 ^ k.1<=95367431640625:=by decide
theorem zdx:∀k:Fin 20,2<=(1024*4 ^ k.1/5 ^ k.1:Nat)/\(1024*4 ^ k.1/5 ^ k.1:Nat)<=262144/\5 ^ k.1<=95367431640625/\4 ^ k.1<=95367431640625:=by decide
theorem zbI{k:Int}(A: -20<=k)(B:k<=19):2<=xq k/\xq k<=262144:=by
 unfold xq;split
 ·obtain⟨A,B,_⟩:=zdw ⟨(-k).toNat,by omega⟩;exact⟨Int.ofNat_le.2 A,Int.ofNat_le.2 B⟩
 ·obtain⟨A,B,_⟩:=zdx ⟨k.toNat,by omega⟩;exact⟨Int.ofNat_le.2 A,Int.ofNat_le.2 B⟩
theorem zil(t:Nat)(w:World)(h1:1<=t)(H:t<=20):Calls prog 85 #[.int .i64 (-(t:Int))] w fun e w'=>e=.returned (.tuple #[.int .u64 ((1024*5 ^ t/4 ^ t:Nat):Int),.int .i64 0])/\Below w.heap.size w w':=by
 have hb:=fun k (D:k<=t)=>zdw ⟨k,by omega⟩;obtain⟨G,O,I,N⟩:=hb t (zg t);simp only at G O I N;have J:=zc (zcQ 5 t w H (by omega) (fun k D=>(hb k D).2.2.1));have R:=zc (zcQ 4 t w H (by omega) (fun k D=>(hb k D).2.2.2));have A:1<=4 ^ t:=Nat.pow_pos (by omega);obtain⟨x,T⟩:=zh (5 ^ t)
 obtain⟨y,M⟩:=zh (4 ^ t)
 rw[<-T]at J I ⊢;rw[<-M]at R N A ⊢;clear T M hb G O;go_enter func85,ntmps85;go_wp2_with fail;refine J.out.mono ?_;rintro z w2 ⟨rfl,hw⟩;obtain rfl:=hw.symm;go_wp2_with fail;refine R.out.mono ?_;rintro z w3 ⟨rfl,hw⟩;obtain rfl:=hw.symm;go_wp2_with fail;refine(zdf 1024 x y _ (by omega) (by omega) ⟨by omega,by omega⟩ (by omega)).mono ?_;rintro z w4 ⟨rfl,B⟩;have E:=zc B;clear B;go_wp2;go_ret2;exact⟨rfl,E.out⟩
theorem zim(t:Nat)(w:World)(h2:t<=19):Calls prog 85 #[.int .i64 (t:Int)] w fun e w'=>e=.returned (.tuple #[.int .u64 ((1024*4 ^ t/5 ^ t:Nat):Int),.int .i64 0])/\Below w.heap.size w w':=by
 have hb:=fun k (D:k<=t)=>zdx ⟨k,by omega⟩;obtain⟨G,N,H,M⟩:=hb t (zg t);simp only at G N H M;have I:=zc (zcQ 4 t w (by omega) (by omega) (fun k D=>(hb k D).2.2.2));have O:=zc (zcQ 5 t w (by omega) (by omega) (fun k D=>(hb k D).2.2.1));have A:1<=5 ^ t:=Nat.pow_pos (by omega);obtain⟨x,R⟩:=zh (4 ^ t)
 obtain⟨y,J⟩:=zh (5 ^ t)
 rw[<-R]at I M ⊢;rw[<-J]at O H A ⊢;clear R J hb G N;go_enter func85,ntmps85;go_wp2_with fail;refine I.out.mono ?_;rintro z w2 ⟨rfl,hw⟩;obtain rfl:=hw.symm;go_wp2_with fail;refine O.out.mono ?_;rintro z w3 ⟨rfl,hw⟩;obtain rfl:=hw.symm;go_wp2_with fail;refine(zdf 1024 x y _ (by omega) (by omega) ⟨by omega,by omega⟩ (by omega)).mono ?_;rintro z w4 ⟨rfl,B⟩;have E:=zc B;clear B;go_wp2;go_ret2;exact⟨rfl,E.out⟩
theorem zb9(k:Int)(w:World)(h1: -20<=k)(h2:k<=19):Calls prog 85 #[.int .i64 k] w fun e w'=>e=.returned (.tuple #[.int .u64 (xq k),.int .i64 0])/\Below w.heap.size w w':=by
 unfold xq;split
 ·obtain⟨t,rfl⟩:∃t:Nat,k= -(t:Int):=⟨(-k).toNat,by omega⟩
  have:=zil t w (by omega) (by omega);rw[show(- -(t:Int)).toNat=t by omega];exact this
 ·obtain⟨t,rfl⟩:∃t:Nat,k=(t:Int):=⟨k.toNat,by omega⟩
  have:=zim t w (by omega);rw[show((t:Int)).toNat=t by omega];exact this
theorem zdy(k:Int)(w:World)(h:k < -20∨19<k):Calls prog 85 #[.int .i64 k] w fun e w'=>e=.returned (.tuple #[.int .u64 0,.int .i64 1])/\w'=w:=by
 by_cases h1:k < -20
 ·go_enter func85,ntmps85;go_wp2;go_ret2;exact⟨rfl,rfl⟩
 ·have h2:19<k:=by omega
  have h3:¬k<=19:=by omega
  have h4: -20<=k:=by omega
  go_enter func85,ntmps85;go_wp2;go_ret2;exact⟨rfl,rfl⟩
def zdz(w:Int):Int:=if w<2 then 2 else if 262144<w then 262144 else w
theorem zmy(w:Int):2<=zdz w/\zdz w<=262144:=by unfold zdz;split <;> (try split) <;> omega
theorem zin(n:Int)(w:World)(h:0<=n/\n<=18446744073709551615):Calls prog 212 #[.int .u64 n] w fun e w'=>e=.returned (.int .u64 (zdz n))/\w'=w:=by
 have e:zdz n=min (max n 2) 262144:=by unfold zdz;split <;> (try split) <;> omega
 rw[e];go_enter func212,ntmps212;go_wp2;go_ret;exact⟨rfl,rfl⟩
def xa(sh here all:Int):Int:=if all=0 then 2 else zdz (sh*here/all)
theorem zeB(a b c:Int):2<=xa a b c/\xa a b c<=262144:=by unfold xa;split;exact⟨by omega,by omega⟩;exact zmy _
theorem zfz(sh here all:Int)(w:World)(E:0<=sh/\sh<=262144)(D:0<=here/\here<=4294967296)(H:0<=all/\all<=18446744073709551615):
 Calls prog 165 #[.int .u64 sh,.int .u64 here,.int .u64 all] w fun e w'=>e=.returned (.int .u64 (xa sh here all))/\Below w.heap.size w w':=by
 unfold xa;by_cases h:all=0
 ·subst h;go_enter func165,ntmps165;go_wp2;go_ret;exact⟨rfl,Below.refl _ w⟩
 ·rw[if_neg h];have hb:(all == 0)=false:=beq_eq_false_iff_ne.2 h;have hm:=zaK (a:=sh) (b:=here) ⟨E.1,by omega⟩ D;have A:=Int.mul_nonneg E.1 D.1;have G:=Int.ediv_nonneg A H.1;have h0:=Int.ediv_le_self all A;go_enter func165,ntmps165;go_wp2_with fail;refine(zbC sh here all w ⟨E.1,by omega⟩ ⟨D.1,by omega⟩ ⟨by omega,H.2⟩ hm).mono ?_;rintro z J ⟨rfl,B⟩;have I:=zc B;clear B;go_wp2_with fail;refine(zin (sh*here/all) J ⟨G,by omega⟩).mono ?_;rintro z w3 ⟨rfl,hw⟩;obtain rfl:=hw.symm;go_wp2;go_ret;exact⟨rfl,I.out⟩
end
end Go.Proofs.YtmgekibncmnmiaaGreatDoor
