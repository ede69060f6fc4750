/- Proved: the tied card of the law TopKeeps: it returns true for every input, and each argument reads afterwards as it read before. Conditions: the listed variables hold what the row lists, which the card ties to the text. -/
import Derived.LaidMore
import Derived.LaidSub
import Derived.Lay
import Derived.Lib.LaidTab
import Derived.OpenShut
import Derived.SevenTiedAt
import Derived.ShutString
import Derived.Stop.Joined
import Derived.Test.YtmgekibncmnmiaaGreatDoorCards
import Derived.Test.YtmgekibncmnmiaaGreatDoorM13
import Derived.Test.YtmgekibncmnmiaaGreatDoorM41
import Derived.Test.YtmgekibncmnmiaaGreatDoorTie
set_option linter.unusedVariables false
set_option maxRecDepth 100000
set_option maxHeartbeats 4000000
open Go.Proofs.Tryz
namespace Go.Proofs.YtmgekibncmnmiaaGreatDoor.topKeeps
open Go Go.ChangeShapes Go.WideShapes Go.ChangeAt Go.RowKit
theorem own:ownKnob prog.godebug=none:=by kernel_rfl
theorem zjX:laidOutB prog=true:=by kernel_rfl
theorem zo6:prog.globalNamed "internal/strconv.uint64pow10" =some 7:=by kernel_rfl
theorem znx:(Rows.topKeepsRow.laid.filter fun x=> ["internal/strconv.uint64pow10"].contains x.1)= [("internal/strconv.uint64pow10",Lib.tabData .u64 Lib.pow10Tab)]:=by kernel_rfl
theorem zhO{W:World}(h:laidMetH prog Rows.topKeepsRow.laid W):uz W:=by have A:=h.filter (fun x=> ["internal/strconv.uint64pow10"].contains x.1);rw[znx,MakeChecks.laidMetH_plain _ _ _ (by kernel_rfl)]at A;exact Lib.tabIs_of_head (t:=384) (e:=33) (n:=20) zo6 (by kernel_rfl) (by kernel_rfl) (by kernel_rfl) (by kernel_rfl) (by kernel_rfl) A
theorem zly{A D G E H B:IntKind}{cs:List Value}(h:qG [some A,some D,some G,some E,some H,some B] cs):∃z a b c d e:Int,cs= [.int A z,.int D a,.int G b,.int E c,.int H d,.int B e]/\(Lit.int A z).wf=true/\(Lit.int B e).wf=true:=by
 cases cs with
 | nil=>exact absurd h (by intro h;exact h)
 | cons x r=>
  obtain⟨⟨z,rfl,J⟩,I⟩:=h;obtain⟨a,b,c,d,e,rfl,_,_,_,_,he⟩:=zet I;exact⟨z,a,b,c,d,e,rfl,J,he⟩
theorem zny{w:World}{a:Option Addr}{len:Nat}(h:zaF [some .i64,some .i64,some .i64,some .i64,some .i64,some .u64] w a len):∃f:Nat->Ev,zos w a len f/\∀j,j<len->zpY (f j).kind/\(f j).Ok:=by
 have g:∀j,∃x:Ev,j<len->(∃b off,a=some ⟨b,off,none⟩/\b<w.heap.size/\
  w.cell? ⟨b,off+j*6,none⟩=some (.int .i64 x.kind)/\w.cell? ⟨b,off+j*6+1,none⟩=some (.int .i64 x.a)/\w.cell? ⟨b,off+j*6+2,none⟩=some (.int .i64 x.b)/\w.cell? ⟨b,off+j*6+3,none⟩=some (.int .i64 x.n)/\w.cell? ⟨b,off+j*6+4,none⟩=some (.int .i64 x.m)/\w.cell? ⟨b,off+j*6+5,none⟩=some (.int .u64 x.mask))/\zpY x.kind/\x.Ok:=by
  intro j;by_cases A:j<len
  ·obtain⟨b,off,cs,H,hb,G,B⟩:=h.2 j A;obtain⟨v0,v1,v2,v3,v4,v5,rfl,u0,D⟩:=zly G;have c0:=B 0 (by simp);have E:=B 1 (by simp);have c2:=B 2 (by simp);have c3:=B 3 (by simp);have c4:=B 4 (by simp);have c5:=B 5 (by simp);exact⟨⟨v0,v1,v2,v3,v4,v5⟩,fun _=>⟨⟨b,off,H,hb,by simpa using c0,by simpa[Nat.add_assoc]using E,by simpa[Nat.add_assoc]using c2,by simpa[Nat.add_assoc]using c3,by simpa[Nat.add_assoc]using c4,by simpa[Nat.add_assoc]using c5⟩,bounds_i64 u0,bounds_u64 D⟩⟩
  ·exact⟨⟨0,0,0,0,0,0⟩,fun h=>absurd h A⟩
 exact⟨fun j=>(g j).choose,fun j A=>((g j).choose_spec A).1,fun j A=>((g j).choose_spec A).2⟩
theorem walk(cs:List Value)(a:Option Addr)(len cap:Nat)(w:World)(B:uz w)(D:qG [some .u16,some .u16,some .u16,some .u16,some .u16] cs)(A:zaF [some .i64,some .i64,some .i64,some .i64,some .i64,some .u64] w a len):
 Calls prog 4 #[.agg ⟨cs⟩,.slice a len cap] w fun e w'=>e=.returned (.bool true)/\Below w.heap.size w w':=by
 obtain⟨a0,I,a2,a3,a4,rfl,u0,u1,u2,u3,E⟩:=zet D;obtain⟨f,G,H⟩:=zny A;exact zju a0 I a2 a3 a4 a len cap f w B (bounds_u16 u0) (bounds_u16 u1) (bounds_u16 u2) (bounds_u16 u3) (bounds_u16 E) G H A.1
theorem lifted(os:Os)(started:os.Started)(H:Type)(enc:TypeId×Value->H):
 ReturnsInHanded {} Tryz.checked os 4 .any (fun w args=>(Rows.topKeepsSpec.pre enc prog Tryz.f4 [] false w args/\laidMetH prog Rows.topKeepsRow.laid w)/\sizedMet enc prog Tryz.f4 (OpenSpec.ofChange Rows.topKeepsSpec) false w args)
  (Rows.topKeepsSpec.post enc prog Tryz.f4 false true false false):=by
 refine returnsInHanded_of_change_and (C:=Tryz.checked) (X:=fun w _=>laidMetH prog Rows.topKeepsRow.laid w) (fun _ _ _ l h=>h.of_heap l) own started (by kernel_rfl) func4
  (ChangeSpec.witness_shaped (enc:=enc) (C:=Tryz.checked) (os:=os) (X:=fun w _=>laidMetH prog Rows.topKeepsRow.laid w) false (World.laidAll prog os Rows.topKeepsRow.laid) #[.agg #[.int .u16 0,.int .u16 0,.int .u16 0,.int .u16 0,.int .u16 0],.slice none 0 0] 8 (World.laidAll_os _ _ _)
   (World.shaped_of_ZipB (by kernel_rfl) (by kernel_rfl)) (by kernel_rfl) (by kernel_rfl) (by kernel_rfl)
   (by rw[MakeChecks.laidMetH_plain _ _ _ (by kernel_rfl)];exact laidMet_laidAll _ (by kernel_rfl) (by kernel_rfl))) ?_
 intro W base args d gs before A T h3 _ g _;have B:∀(j:Nat) t v,Tryz.f4.params[j]?=some t->args[j]?=some v->Value.okWide prog W .any base t v:=A;have M:=T;obtain⟨p,q,E,o,rfl,h9,h7⟩:=T;have Y:DataW.TrodAll enc prog W 0 (fun _=>true) true Tryz.f4.params.toList args.toList d p:=E;rw[Tryz.params4]at Y B;obtain⟨v0,h8,d0,h5,n,q0,h2,rfl,rfl,R,c⟩:=trodAll_cons Y;obtain⟨v1,h4,d1,h6,k,q1,rfl,rfl,rfl,V,a⟩:=trodAll_cons c;obtain⟨rfl,rfl,rfl⟩:=trodAll_nil a;obtain rfl:args=#[v0,v1]:=by cases args;simp_all
 obtain⟨rfl,rfl⟩:=trodVars_none o;have U:=R;have I:∀x∈n,x.block<W.heap.size:=by obtain⟨m,hm⟩:=U;exact DataW.trod_lt m _ _ _ hm
 obtain⟨J,rfl,w0⟩:=zke (f:=6) (sh:= [some .u16,some .u16,some .u16,some .u16,some .u16]) (by kernel_rfl) (by kernel_rfl) (by kernel_rfl) (B 0 23 v0 rfl rfl) R;have O:=V;have N:∀x∈k,x.block<W.heap.size:=by obtain⟨m,hm⟩:=O;exact DataW.trod_lt m _ _ _ hm
 obtain⟨Z,D,G,rfl⟩:=okWide_slice underlying24 (B 1 24 v1 rfl rfl);have w1:zaF [some .i64,some .i64,some .i64,some .i64,some .i64,some .u64] W Z D:=zcG (f:=6) underlying24 (by kernel_rfl) (by kernel_rfl) (by decide) V;have b:uz W:=zhO g;clear E A;refine(walk J Z D G W b w0 w1).mono fun e W' ⟨he,bel⟩=>?_;subst he
 exact⟨_,rfl,_,_,_,[],_,[],M,trodAll_mk1 (shut_bool underlying4 _),(trodAll_cons_mk (Below.trod zjX (by kernel_rfl) (of_decide_eq_true (by kernel_rfl)) U bel I) (trodAll_cons_mk (Below.trod zjX (by kernel_rfl) (of_decide_eq_true (by kernel_rfl)) O bel N) trodAll_mk0)),rfl,bel.frame _,fun h=>by cases h⟩
theorem over:Rows.topKeepsRow.holds Tryz.pinned (OpenSpec.ofChange Rows.topKeepsSpec):=
 OpenClaim.holds_of_wide 4 Tryz.f4 rfl rfl rfl rfl rfl rfl rfl ⟨rfl,rfl,rfl,rfl,rfl⟩ rfl rfl rfl rfl rfl (by as_aux_lemma=>kernel_rfl) func4 facts
  (of_decide_eq_true (by kernel_rfl)) (by unfold Func.isWrapper;first | (rw[if_pos (by decide+kernel)];kernel_rfl) | (rw[if_neg (by decide+kernel)];exact⟨rfl,rfl⟩))
  (fun os started H enc _=>lifted os started H enc)
theorem proved:Rows.TopKeepsCardSaid:=
 Claim7.holds_tied_plain_at .later [] [.data,.data,.data,.data,.sentinel,.sentinel,.pinned] true (true, "96ee18c4786b253376cf1a3ebe4bd78d7368f8250135cc6d7d13255384211954") true
  over (fun _ h=>by cases h) (by kernel_rfl) (fun _ h=>by cases h) topKeeps_row_tie rfl ⟨rfl,rfl⟩ (by kernel_rfl) rfl
  (fun f fn E B=>by
   obtain rfl:f=4:=Option.some.inj ((show prog.funcNamed "dole/doletop.TopKeeps" =some 4 by kernel_rfl).symm.trans E) |>.symm
   obtain rfl:fn=Tryz.f4:=(Option.some.inj (func4.symm.trans B)).symm;exact⟨by kernel_rfl,fun j t D=>by
    rw[Tryz.params4]at D;have hm:t∈ [23,24]:=by simpa using Array.mem_of_getElem? D
    have A:([23,24].all fun u=>!prog.wantsStandIn u)=true:=by kernel_rfl
    exact(show prog.wantsStandIn t=false by simpa using List.all_eq_true.1 A t hm)⟩)
  (by kernel_rfl)
#print axioms proved
end Go.Proofs.YtmgekibncmnmiaaGreatDoor.topKeeps
