/- Parts for TopPlaces. Conditions: as stated. -/
import Derived.Maps.AppendAt
import Derived.Test.YtmpdpmhpkgbepaaGreatDoorZ20
set_option linter.unusedVariables false
set_option maxRecDepth 100000
set_option maxHeartbeats 4000000
open Go.Value renaming int->zd,tuple->zi
open Go.Ending renaming returned->zm
open Go.Proofs.Tryz
namespace Go.Proofs.YtmpdpmhpkgbepaaGreatDoor
open Go Go.RowKit Go.ChangeShapes Go.WideShapes
attribute [local go_sem ↓] Go.wp_at_zero Go.wp_at_succ
theorem Es(n t:Nat)(w:World)(ht:t<=20)(hn:n<=5)(A:∀k,k<=t->n ^ k<=95367431640625):
 Calls prog 134 #[zd .u64 n,zd .i64 t] w fun e w'=>e=zm (zd .u64 ((n ^ t:Nat):Int))/\w'=w:=by
 have J:=yw A;clear A;go_enter func134,ntmps134;go_wp2_with fail;go_loopw [5,7] (fun p i wr=>∃k:Nat,k<=t/\p=zd .u64 ((n ^ k:Nat):Int)/\i=zd .i64 k/\wr=w) (fun _ i _=>t-(intOf i).toNat)
 case atStart=>exact⟨0,by omega,by simp,rfl,rfl⟩
 case round=>
  obtain⟨k,hk,rfl,rfl,rfl⟩:=hrel;by_cases h0:k<t
  .obtain⟨p,A⟩:=yB (n ^ k)
   have E:n ^ (k+1)=p*n:=by rw[A,Nat.pow_succ]
   have G:=J.out (k+1) (by omega);rw[E]at G;have D:(p:Int)*n=((p*n:Nat):Int):=(Int.natCast_mul p n).symm;have h3:0<=(p:Int)*n/\(p:Int)*n<=95367431640625:=by rw[D];omega
   have H:=yw E;have I:=yw D;rw[<-A];clear A E G D;go_wp2;go_roundw
   case rel=>
    refine⟨k+1,by omega,?_,by go_num,by first|rfl|trivial⟩;rw[H.out,<-I.out]
   case measure=>simp[intOf];omega
  .have B:k=t:=by omega
   subst B;go_wp2;go_ret;exact⟨rfl,rfl⟩
def vd(k:Int):Int:=if k<0 then((1024*5 ^ (-k).toNat/4 ^ (-k).toNat:Nat):Int)else((1024*4 ^ k.toNat/5 ^ k.toNat:Nat):Int)
theorem Gm:∀k:Fin 21,2<=(1024*5 ^ k.1/4 ^ k.1:Nat)/\(1024*5 ^ k.1/4 ^ k.1:Nat)<=262144/\5 ^ k.1<=95367431640625/\4 ^ k.1<=95367431640625:=by decide
theorem Gn:∀k:Fin 20,2<=(1024*4 ^ k.1/5 ^ k.1:Nat)/\(1024*4 ^ k.1/5 ^ k.1:Nat)<=262144/\5 ^ k.1<=95367431640625/\4 ^ k.1<=95367431640625:=by decide
theorem Bg{k:Int}(A: -20<=k)(B:k<=19):2<=vd k/\vd k<=262144:=by
 unfold vd;split
 .obtain⟨A,B,_⟩:=Gm ⟨(-k).toNat,by omega⟩;exact⟨Int.ofNat_le.2 A,Int.ofNat_le.2 B⟩
 .obtain⟨A,B,_⟩:=Gn ⟨k.toNat,by omega⟩;exact⟨Int.ofNat_le.2 A,Int.ofNat_le.2 B⟩
theorem KA(t:Nat)(w:World)(h1:1<=t)(H:t<=20):Calls prog 85 #[zd .i64 (-(t:Int))] w fun e w'=>e=zm (zi #[zd .u64 ((1024*5 ^ t/4 ^ t:Nat):Int),zd .i64 0])/\Below w.heap.size w w':=by
 have hb:=fun k (hk:k<=t)=>Gm ⟨k,by omega⟩;obtain⟨G,O,I,N⟩:=hb t (yA t);simp only at G O I N;have J:=yw (Es 5 t w H (by omega) (fun k hk=>(hb k hk).2.2.1));have R:=yw (Es 4 t w H (by omega) (fun k hk=>(hb k hk).2.2.2));have A:1<=4 ^ t:=Nat.pow_pos (by omega);obtain⟨x,T⟩:=yB (5 ^ t)
 obtain⟨y,M⟩:=yB (4 ^ t)
 rw[<-T]at J I ⊢;rw[<-M]at R N A ⊢;clear T M hb G O;go_enter func85,ntmps85;go_wp2_with fail;refine J.out.mono ?_;rintro z w2 ⟨rfl,D⟩;obtain rfl:=D.symm;go_wp2_with fail;refine R.out.mono ?_;rintro z w3 ⟨rfl,D⟩;obtain rfl:=D.symm;go_wp2_with fail;refine(Fs 1024 x y _ (by omega) (by omega) ⟨by omega,by omega⟩ (by omega)).mono ?_;rintro z w4 ⟨rfl,B⟩;have E:=yw B;clear B;go_wp2;go_ret2;exact⟨rfl,E.out⟩
theorem KB(t:Nat)(w:World)(h2:t<=19):Calls prog 85 #[zd .i64 (t:Int)] w fun e w'=>e=zm (zi #[zd .u64 ((1024*4 ^ t/5 ^ t:Nat):Int),zd .i64 0])/\Below w.heap.size w w':=by
 have hb:=fun k (hk:k<=t)=>Gn ⟨k,by omega⟩;obtain⟨G,N,H,M⟩:=hb t (yA t);simp only at G N H M;have I:=yw (Es 4 t w (by omega) (by omega) (fun k hk=>(hb k hk).2.2.2));have O:=yw (Es 5 t w (by omega) (by omega) (fun k hk=>(hb k hk).2.2.1));have A:1<=5 ^ t:=Nat.pow_pos (by omega);obtain⟨x,R⟩:=yB (4 ^ t)
 obtain⟨y,J⟩:=yB (5 ^ t)
 rw[<-R]at I M ⊢;rw[<-J]at O H A ⊢;clear R J hb G N;go_enter func85,ntmps85;go_wp2_with fail;refine I.out.mono ?_;rintro z w2 ⟨rfl,D⟩;obtain rfl:=D.symm;go_wp2_with fail;refine O.out.mono ?_;rintro z w3 ⟨rfl,D⟩;obtain rfl:=D.symm;go_wp2_with fail;refine(Fs 1024 x y _ (by omega) (by omega) ⟨by omega,by omega⟩ (by omega)).mono ?_;rintro z w4 ⟨rfl,B⟩;have E:=yw B;clear B;go_wp2;go_ret2;exact⟨rfl,E.out⟩
theorem Du(k:Int)(w:World)(h1: -20<=k)(h2:k<=19):Calls prog 85 #[zd .i64 k] w fun e w'=>e=zm (zi #[zd .u64 (vd k),zd .i64 0])/\Below w.heap.size w w':=by
 unfold vd;split
 .obtain⟨t,rfl⟩:∃t:Nat,k= -(t:Int):=⟨(-k).toNat,by omega⟩
  have:=KA t w (by omega) (by omega);rw[show(- -(t:Int)).toNat=t by omega];exact this
 .obtain⟨t,rfl⟩:∃t:Nat,k=(t:Int):=⟨k.toNat,by omega⟩
  have:=KB t w (by omega);rw[show((t:Int)).toNat=t by omega];exact this
theorem Gq(k:Int)(w:World)(h:k < -20∨19<k):Calls prog 85 #[zd .i64 k] w fun e w'=>e=zm (zi #[zd .u64 0,zd .i64 1])/\w'=w:=by
 by_cases h1:k < -20
 .go_enter func85,ntmps85;go_wp2;go_ret2;exact⟨rfl,rfl⟩
 .have h2:19<k:=by omega
  go_enter func85,ntmps85;go_wp2;go_ret2;exact⟨rfl,rfl⟩
def Gs(w:Int):Int:=if w<2 then 2 else if 262144<w then 262144 else w
theorem EM(w:Int):2<=Gs w/\Gs w<=262144:=by unfold Gs;split<;>(try split)<;>omega
theorem KC(n:Int)(w:World)(h:0<=n/\n<=18446744073709551615):Calls prog 212 #[zd .u64 n] w fun e w'=>e=zm (zd .u64 (Gs n))/\w'=w:=by
 have e:Gs n=min (max n 2) 262144:=by unfold Gs;split<;>(try split)<;>omega
 rw[e];go_enter func212,ntmps212;go_wp2;go_ret;exact⟨rfl,rfl⟩
def qS(sh B A:Int):Int:=if A=0 then 2 else Gs (sh*B/A)
theorem Lv(a b c:Int):2<=qS a b c/\qS a b c<=262144:=by unfold qS;split;exact⟨by omega,by omega⟩;exact EM _
theorem Oq(sh A B:Int)(w:World)(H:0<=sh/\sh<=262144)(G:0<=A/\A<=4294967296)(J:0<=B/\B<=18446744073709551615):
 Calls prog 165 #[zd .u64 sh,zd .u64 A,zd .u64 B] w fun e w'=>e=zm (zd .u64 (qS sh A B))/\Below w.heap.size w w':=by
 unfold qS;by_cases h:B=0
 .subst h;go_enter func165,ntmps165;go_wp2;go_ret;exact⟨rfl,Below.refl _ w⟩
 .rw[if_neg h];have hb:(B == 0)=false:=beq_eq_false_iff_ne.2 h;have O:=Wn (a:=sh) (b:=A) ⟨H.1,by omega⟩ G;have D:=Int.mul_nonneg H.1 G.1;have I:=Int.ediv_nonneg D J.1;have h0:=Int.ediv_le_self B D;go_enter func165,ntmps165;go_wp2_with fail;refine(Vu sh A B w ⟨H.1,by omega⟩ ⟨G.1,by omega⟩ ⟨by omega,J.2⟩ O).mono ?_;rintro z R ⟨rfl,E⟩;have M:=yw E;clear E;go_wp2_with fail;refine(KC (sh*A/B) R ⟨I,by omega⟩).mono ?_;rintro z w3 ⟨rfl,N⟩;obtain rfl:=N.symm;go_wp2;go_ret;exact⟨rfl,M.out⟩
