/- Proved: the tied card of the law TopPlaces: it returns true for every input, and each argument reads afterwards as it read before. Conditions: the listed variables hold what the row lists, which the card ties to the text. -/
import Derived.LaidMore
import Derived.LaidSub
import Derived.Lay
import Derived.Lib.LaidTab
import Derived.OpenShut
import Derived.SevenTiedAt
import Derived.ShutString
import Derived.Stop.Joined
import Derived.Test.YtmpdpmhpkgbepaaGreatDoorCards
import Derived.Test.YtmpdpmhpkgbepaaGreatDoorTie
import Derived.Test.YtmpdpmhpkgbepaaGreatDoorZ09
import Derived.Test.YtmpdpmhpkgbepaaGreatDoorZ36
import Derived.Test.YtmpdpmhpkgbepaaGreatDoorZ38
set_option linter.unusedVariables false
set_option maxRecDepth 100000
set_option maxHeartbeats 4000000
open Go.Proofs.Tryz
namespace Go.Proofs.YtmpdpmhpkgbepaaGreatDoor.topKeeps
open Go Go.ChangeShapes Go.WideShapes Go.ChangeAt Go.RowKit
theorem BR{A D G E H B:IntKind}{cs:List Value}(h:uI [some A,some D,some G,some E,some H,some B] cs):∃z a b c d e:Int,cs= [.int A z,.int D a,.int G b,.int E c,.int H d,.int B e]/\(Lit.int A z).wf=true/\(Lit.int B e).wf=true:=by
 cases cs with
 | nil=>exact absurd h (by intro h;exact h)
 | cons x r=>
  obtain⟨⟨z,rfl,J⟩,I⟩:=h;obtain⟨a,b,c,d,e,rfl,_,_,_,_,M⟩:=Li I;exact⟨z,a,b,c,d,e,rfl,J,M⟩
theorem fV{w:World}{a:Option Addr}{A:Nat}(h:Wg [some .i64,some .i64,some .i64,some .i64,some .i64,some .u64] w a A):∃f:Nat->Ev,MK w a A f/\∀j,j<A->RH (f j).kind/\(f j).Ok:=by
 have g:∀j,∃x:Ev,j<A->(∃b off,a=some ⟨b,off,none⟩/\b<w.heap.size/\
  w.cell? ⟨b,off+j*6,none⟩=some (.int .i64 x.kind)/\w.cell? ⟨b,off+j*6+1,none⟩=some (.int .i64 x.a)/\w.cell? ⟨b,off+j*6+2,none⟩=some (.int .i64 x.b)/\w.cell? ⟨b,off+j*6+3,none⟩=some (.int .i64 x.n)/\w.cell? ⟨b,off+j*6+4,none⟩=some (.int .i64 x.m)/\w.cell? ⟨b,off+j*6+5,none⟩=some (.int .u64 x.mask))/\RH x.kind/\x.Ok:=by
  intro j;by_cases B:j<A
  .obtain⟨b,off,cs,V,hb,N,D⟩:=h.2 j B;obtain⟨X,G,R,E,U,Y,rfl,u0,H⟩:=BR N;have Z:=D 0 (by simp);have I:=D 1 (by simp);have M:=D 2 (by simp);have O:=D 3 (by simp);have J:=D 4 (by simp);have T:=D 5 (by simp);exact⟨⟨X,G,R,E,U,Y⟩,fun _=>⟨⟨b,off,V,hb,by simpa using Z,by simpa[Nat.add_assoc]using I,by simpa[Nat.add_assoc]using M,by simpa[Nat.add_assoc]using O,by simpa[Nat.add_assoc]using J,by simpa[Nat.add_assoc]using T⟩,bounds_i64 u0,bounds_u64 H⟩⟩
  .exact⟨⟨0,0,0,0,0,0⟩,fun h=>absurd h B⟩
 exact⟨fun j=>(g j).choose,fun j B=>((g j).choose_spec B).1,fun j B=>((g j).choose_spec B).2⟩
end Go.Proofs.YtmpdpmhpkgbepaaGreatDoor.topKeeps
namespace Go.Proofs.YtmpdpmhpkgbepaaGreatDoor.topPlaces
open Go Go.ChangeShapes Go.WideShapes Go.ChangeAt Go.RowKit
theorem NY:prog.globalNamed "internal/strconv.uint64pow10" =some 7:=by kernel_rfl
theorem GW:(Rows.topPlacesRow.laid.filter fun x=> ["internal/strconv.uint64pow10"].contains x.1)= [("internal/strconv.uint64pow10",Lib.tabData .u64 Lib.pow10Tab)]:=by kernel_rfl
theorem ZR{W:World}(h:laidMetH prog Rows.topPlacesRow.laid W):Xu W:=by have A:=h.filter (fun x=> ["internal/strconv.uint64pow10"].contains x.1);rw[GW,MakeChecks.laidMetH_plain _ _ _ (by kernel_rfl)]at A;exact Lib.tabIs_of_head (t:=384) (e:=33) (n:=20) NY (by kernel_rfl) (by kernel_rfl) (by kernel_rfl) (by kernel_rfl) (by kernel_rfl) A
theorem walk(cs:List Value)(a:Option Addr)(A B:Nat)(w:World)(E:Xu w)(G:uI [some .u16,some .u16,some .u16,some .u16,some .u16] cs)(D:Wg [some .i64,some .i64,some .i64,some .i64,some .i64,some .u64] w a A):
 Calls prog 3 #[.agg ⟨cs⟩,.slice a A B] w fun e w'=>e=.returned (.bool true)/\Below w.heap.size w w':=by
 obtain⟨O,R,T,H,J,rfl,u0,u1,u2,u3,I⟩:=Li G;obtain⟨f,M,N⟩:=topKeeps.fV D;exact ZQ O R T H J a A B f w E (bounds_u16 u0) (bounds_u16 u1) (bounds_u16 u2) (bounds_u16 u3) (bounds_u16 I) M N D.1
theorem lifted(os:Os)(A:os.Started)(H:Type)(enc:TypeId×Value->H):
 ReturnsInHanded {} Tryz.checked os 3 .any (fun w args=>(Rows.topPlacesSpec.pre enc prog Tryz.f3 [] false w args/\laidMetH prog Rows.topPlacesRow.laid w)/\sizedMet enc prog Tryz.f3 (OpenSpec.ofChange Rows.topPlacesSpec) false w args)
  (Rows.topPlacesSpec.post enc prog Tryz.f3 false true false false):=by
 refine returnsInHanded_of_change_and (C:=Tryz.checked) (X:=fun w _=>laidMetH prog Rows.topPlacesRow.laid w) (fun _ _ _ s h=>h.of_heap s) own A (by kernel_rfl) func3
  (ChangeSpec.witness_shaped (enc:=enc) (C:=Tryz.checked) (os:=os) (X:=fun w _=>laidMetH prog Rows.topPlacesRow.laid w) false (World.laidAll prog os Rows.topPlacesRow.laid) #[.agg #[.int .u16 0,.int .u16 0,.int .u16 0,.int .u16 0,.int .u16 0],.slice none 0 0] 8 (World.laidAll_os _ _ _)
   (World.shaped_of_ZipB (by kernel_rfl) (by kernel_rfl)) (by kernel_rfl) (by kernel_rfl) (by kernel_rfl)
   (by rw[MakeChecks.laidMetH_plain _ _ _ (by kernel_rfl)];exact laidMet_laidAll _ (by kernel_rfl) (by kernel_rfl))) ?_
 intro W base args n gs h2 B V h4 _ o _;have D:∀(j:Nat) t v,Tryz.f3.params[j]?=some t->args[j]?=some v->Value.okWide prog W .any base t v:=B;have N:=V;obtain⟨p,q,G,z,rfl,ha,h8⟩:=V;have b:DataW.TrodAll enc prog W 0 (fun _=>true) true Tryz.f3.params.toList args.toList n p:=G;rw[Tryz.params3]at b D;obtain⟨d,h9,d0,h6,u,q0,h3,rfl,rfl,U,l⟩:=trodAll_cons b;obtain⟨Z,h5,d1,h7,r,q1,rfl,rfl,rfl,a,g⟩:=trodAll_cons l;obtain⟨rfl,rfl,rfl⟩:=trodAll_nil g;obtain rfl:args=#[d,Z]:=by cases args;simp_all
 obtain⟨rfl,rfl⟩:=trodVars_none z;have Y:=U;have J:∀x∈u,x.block<W.heap.size:=by obtain⟨m,O⟩:=Y;exact DataW.trod_lt m _ _ _ O
 obtain⟨M,rfl,w0⟩:=WP (f:=6) (sh:= [some .u16,some .u16,some .u16,some .u16,some .u16]) (by kernel_rfl) (by kernel_rfl) (by kernel_rfl) (D 0 23 d rfl rfl) U;have T:=a;have R:∀x∈r,x.block<W.heap.size:=by obtain⟨m,O⟩:=T;exact DataW.trod_lt m _ _ _ O
 obtain⟨c,E,I,rfl⟩:=okWide_slice underlying24 (D 1 24 Z rfl rfl);have w1:Wg [some .i64,some .i64,some .i64,some .i64,some .i64,some .u64] W c E:=Eg (f:=6) underlying24 (by kernel_rfl) (by kernel_rfl) (by decide) a;have k:Xu W:=ZR o;clear G B;refine(walk M c E I W k w0 w1).mono fun e W' ⟨y,iH⟩=>?_;subst y
 exact⟨_,rfl,_,_,_,[],_,[],N,trodAll_mk1 (shut_bool underlying4 _),(trodAll_cons_mk (Below.trod JZ (by kernel_rfl) (of_decide_eq_true (by kernel_rfl)) Y iH J) (trodAll_cons_mk (Below.trod JZ (by kernel_rfl) (of_decide_eq_true (by kernel_rfl)) T iH R) trodAll_mk0)),rfl,iH.frame _,fun h=>by cases h⟩
theorem over:Rows.topPlacesRow.holds Tryz.pinned (OpenSpec.ofChange Rows.topPlacesSpec):=over_of lifted
theorem proved:Rows.TopPlacesCardSaid:=tail over
#print axioms proved
end Go.Proofs.YtmpdpmhpkgbepaaGreatDoor.topPlaces
