/- Parts of the proof of the law TopKeeps: contracts of the functions that it reaches, and plain laws of what they compute. Conditions: those in each statement. -/
import Derived.Test.YtmgekibncmnmiaaGreatDoorM03
import Derived.Test.YtmgekibncmnmiaaGreatDoorM04
set_option linter.unusedVariables false
set_option maxRecDepth 100000
set_option maxHeartbeats 4000000
open Go.Proofs.Tryz
namespace Go.Proofs.YtmgekibncmnmiaaGreatDoor
namespace Hg
open Go Go.RowKit Go.ChangeShapes Go.WideShapes
structure zrQ(w:World)(a:Option Addr)(len:Nat)(xs:List Int):Prop where
 length:xs.length=len
 most:len<=9223372036854775807
 cell:∀j,j<len->∃b off,a=some ⟨b,off,none⟩/\b<w.heap.size/\w.cell? ⟨b,off+j,none⟩=some (.int .i64 (xs.getD j 0))
def lm(xs:List Int):Nat->Int
 | 0=>xs.getD 0 0
 | k+1=>if xs.getD k 0<lm xs k then xs.getD k 0 else lm xs k
theorem zsO(xs:List Int):lm xs 1=xs.getD 0 0:=by simp[lm]
def zsu(m:Int)(xs:List Int):Int:=if xs.length=0 then m else if m<lm xs xs.length then lm xs xs.length else m
theorem zfc(a:Option Addr)(len cap:Nat)(xs:List Int)(w:World)(B:zrQ w a len xs)(H:0<len):
 Calls prog 256 #[.slice a len cap] w fun e w'=>e=.returned (.int .i64 (lm xs len))/\∃n,w.drewN n=w':=by
 obtain⟨b,off,rfl,_,A⟩:=B.cell 0 H;rw[<-zsO]at A;rw[Nat.add_zero]at A;have hlen:=B.most;have I:=zc B;clear B;have h1:¬(len:Int) <1:=by omega
 generalize hm:lm xs 1=m0 at*;have G:=zc hm;clear hm;go_enter func256,ntmps256;go_wp2;go_loop [3,4] (fun m i=>∃k:Nat,1<=k/\k<=len/\i=.int .i64 k/\m=.int .i64 (lm xs k)) (fun _ i=>len-(intOf i).toNat)
 case atStart=>exact⟨1,by omega,by omega,rfl,by rw[G.out]⟩
 case round=>
  obtain⟨k,h3,hk,rfl,rfl⟩:=hrel;by_cases D:k<len
  ·obtain⟨b',h2,E,_,hc⟩:=I.out.cell k D;cases E;have HS:=zc (show lm xs (k+1)=if xs.getD k 0<lm xs k then xs.getD k 0 else lm xs k from rfl);generalize lm xs k=m at*;generalize J:xs.getD k 0=x at*;clear J;rcases Int.lt_trichotomy x m with hm | rfl | hm
   ·go_wp2;go_round
    case rel=>exact⟨k+1,by omega,by omega,by go_num,by rw[HS.out,if_pos hm]⟩
    case measure=>simp[intOf];omega
   ·go_wp2;go_round
    case rel=>exact⟨k+1,by omega,by omega,by go_num,by rw[HS.out,if_neg (by omega)]⟩
    case measure=>simp[intOf];omega
   ·go_wp2;go_round
    case rel=>exact⟨k+1,by omega,by omega,by go_num,by rw[HS.out,if_neg (by omega)]⟩
    case measure=>simp[intOf];omega
  ·obtain rfl:k=len:=by omega
   go_wp2;go_ret;exact⟨rfl,0,rfl⟩
theorem zgh(m:Int)(a:Option Addr)(cap:Nat)(w:World):
 Calls prog 235 #[.int .i64 m,.slice a 0 cap] w fun e w'=>e=.returned (.int .i64 m)/\∃n,w.drewN n=w':=by
 go_enter func235,ntmps235;go_wp2;go_ret;exact⟨rfl,0,rfl⟩
theorem zgi(m:Int)(a:Option Addr)(len cap:Nat)(xs:List Int)(w:World)(B:zrQ w a len xs)(D:0<len):
 Calls prog 235 #[.int .i64 m,.slice a len cap] w fun e w'=>e=.returned (.int .i64 (if m<lm xs len then lm xs len else m))/\∃n,w.drewN n=w':=by
 have A:=zc (zfc a len cap xs w B D);have h1:((len:Int) == 0)=false:=by simp;omega
 clear B;generalize lm xs len=v at*;rcases Int.lt_trichotomy m v with h | rfl | h
 ·rw[if_pos h];go_enter func235,ntmps235;go_wp2_with (go_at_call 256;refine A.out.mono ?_;rintro e w' ⟨rfl,n,rfl⟩);go_ret;exact⟨rfl,_,rfl⟩
 ·rw[if_neg (by omega)];go_enter func235,ntmps235;go_wp2_with (go_at_call 256;refine A.out.mono ?_;rintro e w' ⟨rfl,n,rfl⟩);go_ret;exact⟨rfl,_,rfl⟩
 ·rw[if_neg (by omega)];go_enter func235,ntmps235;go_wp2_with (go_at_call 256;refine A.out.mono ?_;rintro e w' ⟨rfl,n,rfl⟩);go_ret;exact⟨rfl,_,rfl⟩
theorem zsl(m:Int)(a:Option Addr)(len cap:Nat)(xs:List Int)(w:World)(A:zrQ w a len xs):
 Calls prog 235 #[.int .i64 m,.slice a len cap] w fun e w'=>e=.returned (.int .i64 (zsu m xs))/\∃n,w.drewN n=w':=by
 unfold zsu;rw[A.length];by_cases h:len=0
 ·subst h;rw[if_pos rfl];exact zgh m a cap w
 ·rw[if_neg h];exact zgi m a len cap xs w A (by omega)
end Hg
end Go.Proofs.YtmgekibncmnmiaaGreatDoor
