/- Parts for TopPlaces. Conditions: as stated. -/
import Derived.Test.YtmpdpmhpkgbepaaGreatDoorZ15
import Derived.Test.YtmpdpmhpkgbepaaGreatDoorZ19
set_option linter.unusedVariables false
set_option maxRecDepth 100000
set_option maxHeartbeats 4000000
open Go.Value renaming pointer->ze,bool->zh,tuple->zi
open Go.Obj renaming cells->zn
open Option renaming none->zp
open Go renaming World->zu,Calls->zw,Value->zz
open And renaming intro->zQ
open Go.Proofs.Tryz
namespace Go.Proofs.YtmpdpmhpkgbepaaGreatDoor
open Go Go.RowKit Go.ChangeShapes Go.WideShapes
theorem GB(v:zz)(w:zu):(Instr.typeAssert (.iface 270 v) 20 275 true).run prog w=.ok (zi #[.agg #[ze zp],zh false]) w:=by kernel_rfl
theorem GC(v:zz)(w:zu):(Instr.typeAssert (.iface 272 v) 20 275 true).run prog w=.ok (zi #[.agg #[ze zp],zh false]) w:=by kernel_rfl
theorem GD(v:zz)(w:zu):(Instr.typeAssert (.iface 275 v) 20 275 true).run prog w=.ok (zi #[v,zh true]) w:=by kernel_rfl
theorem GE(v:zz)(w:zu):(Instr.typeAssert (.iface 270 v) 20 270 true).run prog w=.ok (zi #[v,zh true]) w:=by kernel_rfl
theorem GF(v:zz)(w:zu):(Instr.typeAssert (.iface 272 v) 20 270 true).run prog w=.ok (zi #[.agg #[ze zp],zh false]) w:=by kernel_rfl
theorem GG(v:zz)(w:zu):(Instr.typeAssert (.iface 272 v) 20 272 false).run prog w=.ok v w:=by kernel_rfl
theorem NQ(a:Option Addr)(w:zu):(Instr.field 272 (.agg #[ze a]) 0).run prog w=.ok (ze a) w:=by kernel_rfl
def Ea(w:zu)(B j:Nat)(u:zz)(z:Ending)(w':zu):Prop:=z=.returned (.int .i64 0)/\OA (fun k=>k=B) w w'/\∀cs t f,w.heap[B]?=some (zn cs t f)->w'.heap[B]?=some (zn (cs.setIfInBounds j u) t f)
theorem Ic{w A:zu}{B j:Nat}(u:zz)(hb:Below w.heap.size w A)(D:B<w.heap.size):Ea w B j u (.returned (.int .i64 0)) (A.setCell ⟨B,j,zp⟩ u):=
 ⟨rfl,(OA.NZ hb:OA (fun k=>k=B) w A).setCell (p:=⟨B,j,zp⟩) (.inl rfl) u,fun cs t f E=>yD ((hb.block B D).trans E)⟩
theorem Ea.alloc{w A:zu}{B j:Nat}{u:zz}{z:Ending}(h:Ea w B j u z A)(D:B<w.heap.size)(o:Obj):Ea w B j u z (A.alloc o):=
 ⟨h.1,h.2.1.alloc o,fun cs t f E=>(Below.heap_alloc _ _ _ (yz D h.2.1.size)).trans (h.2.2 cs t f E)⟩
theorem Ve(s:ByteArray)(v O:Int)(w:zu)(B j:Nat)(h0:0<=v)(I:w.cell? ⟨B,j,zp⟩=some (.int .i64 O))(H:B<w.heap.size)(E:w.frozen? ⟨B,j,zp⟩=false)
 (G:∀W,Below w.heap.size w W->zw prog 176 #[.string s] W fun z w'=>z=.returned (zi #[.int .i64 v,zh true])/\Below W.heap.size W w'):
 zw prog 118 #[dE B j,.string s] w (Ea w B j (.int .i64 v)):=by
 have J:=yw (G _ (yE w (zn #[ze zp] 275)));have D:=yw (zQ I (zQ H E));clear G I H E;have t1:=GB;have t2:=GE;go_enter func118,ntmps118;go_wp2_with fail;refine J.out.mono ?_;rintro z N ⟨rfl,hb⟩;have A:=yC (yE w (zn #[ze zp] 275)) hb (by simp);have M:=yw A;have c2:=(A.cell (p:=⟨B,j,zp⟩) D.out.2.1).trans D.out.1;have l2:=yz D.out.2.1 A.size;have z2:N.frozen? ⟨B,j,zp⟩=false:=by have:=A.block B D.out.2.1;have h:=D.out.2.2;simp only[World.frozen?]at h ⊢;rw[this];exact h
 clear hb A;go_wp2;go_ret;exact(Ic _ M.out D.out.2.1).alloc D.out.2.1 _
theorem Xa(s:ByteArray)(v O:Int)(w:zu)(B j:Nat)(I:w.cell? ⟨B,j,zp⟩=some (.int .i64 O))(H:B<w.heap.size)(E:w.frozen? ⟨B,j,zp⟩=false)
 (G:∀W,Below w.heap.size w W->zw prog 176 #[.string s] W fun z w'=>z=.returned (zi #[.int .i64 v,zh true])/\Below W.heap.size W w'):
 zw prog 118 #[bF B j,.string s] w (Ea w B j (.int .i64 v)):=by
 have J:=yw (G _ (yE w (zn #[ze zp] 275)));have D:=yw (zQ I (zQ H E));clear G I H E;have t1:=GC;have t2:=GF;have t3:=GG;have t4:=NQ;go_enter func118,ntmps118;go_wp2_with fail;refine J.out.mono ?_;rintro z N ⟨rfl,hb⟩;have A:=yC (yE w (zn #[ze zp] 275)) hb (by simp);have M:=yw A;have c2:=(A.cell (p:=⟨B,j,zp⟩) D.out.2.1).trans D.out.1;have l2:=yz D.out.2.1 A.size;have z2:N.frozen? ⟨B,j,zp⟩=false:=by have:=A.block B D.out.2.1;have h:=D.out.2.2;simp only[World.frozen?]at h ⊢;rw[this];exact h
 clear hb A;go_wp2;go_ret;exact(Ic _ M.out D.out.2.1).alloc D.out.2.1 _
theorem GH(R:Int)(w:zu)(B j:Nat)(I:w.cell? ⟨B,j,zp⟩=some (.int .u64 R))(H:B<w.heap.size)(G:w.frozen? ⟨B,j,zp⟩=false):
 zw prog 118 #[iI B j,.string ⟨#[48]⟩] w (Ea w B j (.int .u64 1)):=by
 have M:=yw (Aq (w.alloc (zn #[ze (some ⟨B,j,zp⟩)] 275)));have D:=yw (zQ I (zQ H G));clear I H G;have t1:=GD;go_enter func118,ntmps118;go_wp2_with fail;refine M.out.mono ?_;rintro z E ⟨rfl,hb⟩;have A:=yC (yE w (zn #[ze (some ⟨B,j,zp⟩)] 275)) hb (by simp);have N:=yw A;have c2:=(A.cell (p:=⟨B,j,zp⟩) D.out.2.1).trans D.out.1;have z2:E.frozen? ⟨B,j,zp⟩=false:=by have:=A.block B D.out.2.1;have h:=D.out.2.2;simp only[World.frozen?]at h ⊢;rw[this];exact h
 have x2:E.cell? ⟨w.heap.size,0,zp⟩=some (ze (some ⟨B,j,zp⟩)):=by have O:=heap_alloc_new w (zn #[ze (some ⟨B,j,zp⟩)] 275);have J:=(hb.block w.heap.size (by simp)).trans O;simp[World.cell?,J]
 have xl:w.heap.size<E.heap.size:=by have:=hb.size;simp at this;omega
 clear hb A;go_wp2;go_ret;exact Ic _ N.out D.out.2.1
