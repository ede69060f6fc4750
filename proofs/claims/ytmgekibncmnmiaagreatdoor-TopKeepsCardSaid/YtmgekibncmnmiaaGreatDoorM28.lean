/- Parts of the proof of the law TopKeeps: contracts of the functions that it reaches, and plain laws of what they compute. Conditions: those in each statement. -/
import Derived.Test.YtmgekibncmnmiaaGreatDoorM21
import Derived.Test.YtmgekibncmnmiaaGreatDoorM25
set_option linter.unusedVariables false
set_option maxRecDepth 100000
set_option maxHeartbeats 4000000
open Go.Proofs.Tryz
namespace Go.Proofs.YtmgekibncmnmiaaGreatDoor
open Go Go.RowKit Go.ChangeShapes Go.WideShapes
theorem zng(v:Value)(w:World):(Instr.typeAssert (.iface 270 v) 20 275 true).run prog w=.ok (.tuple #[.agg #[.pointer none],.bool false]) w:=by kernel_rfl
theorem znh(v:Value)(w:World):(Instr.typeAssert (.iface 272 v) 20 275 true).run prog w=.ok (.tuple #[.agg #[.pointer none],.bool false]) w:=by kernel_rfl
theorem zni(v:Value)(w:World):(Instr.typeAssert (.iface 275 v) 20 275 true).run prog w=.ok (.tuple #[v,.bool true]) w:=by kernel_rfl
theorem znj(v:Value)(w:World):(Instr.typeAssert (.iface 270 v) 20 270 true).run prog w=.ok (.tuple #[v,.bool true]) w:=by kernel_rfl
theorem znk(v:Value)(w:World):(Instr.typeAssert (.iface 272 v) 20 270 true).run prog w=.ok (.tuple #[.agg #[.pointer none],.bool false]) w:=by kernel_rfl
theorem znl(v:Value)(w:World):(Instr.typeAssert (.iface 272 v) 20 272 false).run prog w=.ok v w:=by kernel_rfl
theorem zoZ(a:Option Addr)(w:World):(Instr.field 272 (.agg #[.pointer a]) 0).run prog w=.ok (.pointer a) w:=by kernel_rfl
def zcC(w:World)(B j:Nat)(u:Value)(z:Ending)(w':World):Prop:=z=.returned (.int .i64 0)/\zo8 (fun k=>k=B) w w'/\∀cs t f,w.heap[B]?=some (.cells cs t f)->w'.heap[B]?=some (.cells (cs.setIfInBounds j u) t f)
theorem zd8{w A:World}{B j:Nat}(u:Value)(hb:Below w.heap.size w A)(D:B<w.heap.size):zcC w B j u (.returned (.int .i64 0)) (A.setCell ⟨B,j,none⟩ u):=
 ⟨rfl,(zo8.zo7 hb:zo8 (fun k=>k=B) w A).setCell (p:=⟨B,j,none⟩) (.inl rfl) u,fun cs t f E=>zi ((hb.block B D).trans E)⟩
theorem zcC.alloc{w A:World}{B j:Nat}{u:Value}{z:Ending}(h:zcC w B j u z A)(D:B<w.heap.size)(o:Obj):zcC w B j u z (A.alloc o):=
 ⟨h.1,h.2.1.alloc o,fun cs t f E=>(Below.heap_alloc _ _ _ (zf D h.2.1.size)).trans (h.2.2 cs t f E)⟩
theorem zbo(s:ByteArray)(v v0:Int)(w:World)(B j:Nat)(h0:0<=v)(I:w.cell? ⟨B,j,none⟩=some (.int .i64 v0))(H:B<w.heap.size)(E:w.frozen? ⟨B,j,none⟩=false)
 (G:∀W,Below w.heap.size w W->Calls prog 176 #[.string s] W fun z w'=>z=.returned (.tuple #[.int .i64 v,.bool true])/\Below W.heap.size W w'):
 Calls prog 118 #[zr0 B j,.string s] w (zcC w B j (.int .i64 v)):=by
 have J:=zc (G _ (zk w (.cells #[.pointer none] 275)));have D:=zc (And.intro I (And.intro H E));clear G I H E;have t1:=zng;have t2:=znj;go_enter func118,ntmps118;go_wp2_with fail;refine J.out.mono ?_;rintro z N ⟨rfl,hb⟩;have A:=zj (zk w (.cells #[.pointer none] 275)) hb (by simp);have M:=zc A;have c2:=(A.cell (p:=⟨B,j,none⟩) D.out.2.1).trans D.out.1;have l2:=zf D.out.2.1 A.size;have z2:N.frozen? ⟨B,j,none⟩=false:=by have:=A.block B D.out.2.1;have h:=D.out.2.2;simp only[World.frozen?]at h ⊢;rw[this];exact h
 clear hb A;go_wp2;go_ret;exact(zd8 _ M.out D.out.2.1).alloc D.out.2.1 _
theorem vU(s:ByteArray)(v v0:Int)(w:World)(B j:Nat)(I:w.cell? ⟨B,j,none⟩=some (.int .i64 v0))(H:B<w.heap.size)(E:w.frozen? ⟨B,j,none⟩=false)
 (G:∀W,Below w.heap.size w W->Calls prog 176 #[.string s] W fun z w'=>z=.returned (.tuple #[.int .i64 v,.bool true])/\Below W.heap.size W w'):
 Calls prog 118 #[zrr B j,.string s] w (zcC w B j (.int .i64 v)):=by
 have J:=zc (G _ (zk w (.cells #[.pointer none] 275)));have D:=zc (And.intro I (And.intro H E));clear G I H E;have t1:=znh;have t2:=znk;have t3:=znl;have t4:=zoZ;go_enter func118,ntmps118;go_wp2_with fail;refine J.out.mono ?_;rintro z N ⟨rfl,hb⟩;have A:=zj (zk w (.cells #[.pointer none] 275)) hb (by simp);have M:=zc A;have c2:=(A.cell (p:=⟨B,j,none⟩) D.out.2.1).trans D.out.1;have l2:=zf D.out.2.1 A.size;have z2:N.frozen? ⟨B,j,none⟩=false:=by have:=A.block B D.out.2.1;have h:=D.out.2.2;simp only[World.frozen?]at h ⊢;rw[this];exact h
 clear hb A;go_wp2;go_ret;exact(zd8 _ M.out D.out.2.1).alloc D.out.2.1 _
theorem znm(v0:Int)(w:World)(B j:Nat)(I:w.cell? ⟨B,j,none⟩=some (.int .u64 v0))(H:B<w.heap.size)(G:w.frozen? ⟨B,j,none⟩=false):
 Calls prog 118 #[ztu B j,.string ⟨#[48]⟩] w (zcC w B j (.int .u64 1)):=by
 have M:=zc (zhu (w.alloc (.cells #[.pointer (some ⟨B,j,none⟩)] 275)));have D:=zc (And.intro I (And.intro H G));clear I H G;have t1:=zni;go_enter func118,ntmps118;go_wp2_with fail;refine M.out.mono ?_;rintro z E ⟨rfl,hb⟩;have A:=zj (zk w (.cells #[.pointer (some ⟨B,j,none⟩)] 275)) hb (by simp);have N:=zc A;have c2:=(A.cell (p:=⟨B,j,none⟩) D.out.2.1).trans D.out.1;have l2:=zf D.out.2.1 A.size;have z2:E.frozen? ⟨B,j,none⟩=false:=by have:=A.block B D.out.2.1;have h:=D.out.2.2;simp only[World.frozen?]at h ⊢;rw[this];exact h
 have x2:E.cell? ⟨w.heap.size,0,none⟩=some (.pointer (some ⟨B,j,none⟩)):=by have O:=heap_alloc_new w (.cells #[.pointer (some ⟨B,j,none⟩)] 275);have J:=(hb.block w.heap.size (by simp)).trans O;simp[World.cell?,J]
 have xl:w.heap.size<E.heap.size:=by have:=hb.size;simp at this;omega
 clear hb A;go_wp2;go_ret;exact zd8 _ N.out D.out.2.1
end Go.Proofs.YtmgekibncmnmiaaGreatDoor
