/- Parts of the proof of the law TopKeeps: contracts of the functions that it reaches, and plain laws of what they compute. Conditions: those in each statement. -/
import Derived.BigQuiet
import Derived.Deep.QuietTactic
import Derived.Handy
import Derived.Test.YtmgekibncmnmiaaGreatDoorM00
set_option linter.unusedVariables false
set_option maxRecDepth 100000
set_option maxHeartbeats 4000000
namespace Go.Proofs.YtmgekibncmnmiaaGreatDoor
open Go Go.RowKit Go.ChangeShapes Go.WideShapes
theorem zp{B:Nat}{a w:World}(h:Below B a w)(n:Nat):Below B a (w.drewN n):=⟨h.os,h.tape,h.output,h.size,h.block⟩
theorem zcY{B C:Nat}{a w:World}(h:Below B a w)(hc:C<=B):Below C a w:=⟨h.os,h.tape,h.output,h.size,fun k hk=>h.block k (by omega)⟩
theorem zj{B C:Nat}{a b c:World}(h:Below B a b)(k:Below C b c)(A:B<=C):Below B a c:=h.trans (zcY k A)
theorem zf0{W w1:World}(hb:Below W.heap.size W w1):(∀b o,b<W.heap.size->w1.cell? ⟨b,o,none⟩=W.cell? ⟨b,o,none⟩)/\(∀b o,b<W.heap.size->w1.frozen? ⟨b,o,none⟩=W.frozen? ⟨b,o,none⟩):=
 ⟨fun b o h=>hb.cell (p:=⟨b,o,none⟩) h,fun b o h=>hb.frozen (p:=⟨b,o,none⟩) h⟩
structure zo8(F:Nat->Prop)(w w':World):Prop where
 os:w'.os=w.os
 tape:w'.tape=w.tape
 output:w'.output=w.output
 size:w.heap.size<=w'.heap.size
 block:∀k,k<w.heap.size->¬F k->w'.heap[k]?=w.heap[k]?
theorem zo8.zo7{F:Nat->Prop}{w w':World}(h:Below w.heap.size w w'):zo8 F w w':=⟨h.os,h.tape,h.output,h.size,fun k A _=>h.block k A⟩
theorem zo8.below{F:Nat->Prop}{w w':World}{B:Nat}(h:zo8 F w w')(hB:B<=w.heap.size)(D:∀k,F k->B<=k):Below B w w':=
 ⟨h.os,h.tape,h.output,h.size,fun k hk=>h.block k (by omega) (fun A=>by have:=D k A;omega)⟩
theorem zo8.refl(F:Nat->Prop)(w:World):zo8 F w w:=⟨rfl,rfl,rfl,zg _,fun _ _ _=>rfl⟩
theorem zo8.alloc{F:Nat->Prop}{a w:World}(h:zo8 F a w)(o:Obj):zo8 F a (w.alloc o):=
 ⟨h.os,h.tape,h.output,Nat.le_trans h.size (by simp),fun k A B=>by rw[Below.heap_alloc w o k (zf A h.size)];exact h.block k A B⟩
theorem zo8.drewN{F:Nat->Prop}{a w:World}(h:zo8 F a w)(n:Nat):zo8 F a (w.drewN n):=⟨h.os,h.tape,h.output,h.size,h.block⟩
theorem zo8.drew{F:Nat->Prop}{a w:World}(h:zo8 F a w):zo8 F a w.drew:=⟨h.os,h.tape,h.output,h.size,h.block⟩
theorem zo8.setCell{F:Nat->Prop}{a w:World}(h:zo8 F a w){p:Addr}(hp:F p.block∨a.heap.size<=p.block)(u:Value):zo8 F a (w.setCell p u):=
 ⟨h.os,h.tape,h.output,by simpa[World.setCell]using h.size,fun k B A=>by rw[Below.heap_setCell w p u k (by rintro rfl;rcases hp with hp | hp;exact A hp;omega)];exact h.block k B A⟩
theorem zo8.grown{F:Nat->Prop}{a w w':World}{row:Option Nat}(h:zo8 F a w)(A:w.grownBy w' row)(G:∀k,row=some k->F k∨a.heap.size<=k):zo8 F a w':=
 ⟨A.os.trans h.os,A.tape.trans h.tape,A.output.trans h.output,Nat.le_trans h.size A.size,fun k B D=>by rw[A.block k (zf B h.size) (by intro e;rcases G k e.symm with E | E;exact D E;omega)];exact h.block k B D⟩
theorem zo8.trans{F G:Nat->Prop}{a b c:World}(h:zo8 F a b)(k:zo8 G b c)(E:∀x,G x->F x∨a.heap.size<=x):zo8 F a c:=
 ⟨k.os.trans h.os,k.tape.trans h.tape,k.output.trans h.output,Nat.le_trans h.size k.size,fun x D A=>by rw[k.block x (zf D h.size) (by intro e;rcases E x e with B | B;exact A B;omega)];exact h.block x D A⟩
theorem zi{w:World}{b i:Nat}{cs:Array Value}{t:TypeId}{z:Nat×Nat}{u:Value}(h:w.heap[b]?=some (.cells cs t z)):(w.setCell ⟨b,i,none⟩ u).heap[b]?=some (.cells (cs.setIfInBounds i u) t z):=by obtain⟨hb,A⟩:=zd h;simp only[World.setCell];rw[Array.getElem?_modify];simp[hb,A]
end Go.Proofs.YtmgekibncmnmiaaGreatDoor
namespace Go.Proofs.YtmgekibncmnmiaaGreatDoor
open Go Go.RowKit
variable {P : Program}
theorem zei(w:World)(base:Nat)(t ty e:TypeId)(i:TypeInfo)(z:Value)(size bytes:Nat)(N:P.underlying t=some (.slice e))(R:P.info? e=some i)(X:i.zero=some z)
 (H:i.size=size) (U:i.bytes=bytes)
 (v:Value) (n:Nat) (xs:List Value) (D:w.ownsRow base e size v n xs)
 (a:Addr) (m c:Nat) (news:List Value) (O:news.length=m*size) (A:∀j u,news[j]?=some u->w.cell? (a.add j)=some u) (Z:∀u∈news,u.oneCell'=true)
 (T:n+m<=maxLen) (B:(n+m)*bytes<=140737488355328) {v':Value} {w':World}
 (G:(Builtin.append_ #[t,t] ty #[v,.slice (some a) m c]).run P w=.ok v' w'):∀g,v'.ownBlock=some g->v.ownBlock=some g∨w.heap.size<=g:=by
 subst H;subst U;have h2:n+m<=9223372036854775807:=by simp only[maxLen]at T;omega
 rcases D.2 with⟨rfl,rfl⟩ | ⟨g,cap,cur,rfl,h5,Y,h6,h4,V,h3⟩
 ·by_cases hm:m=0
  ·subst hm;have I:(Builtin.append_ #[t,t] ty #[.slice none 0 0,.slice (some a) 0 c]).run P w=.ok (.slice none 0 0) w:=by simp[Builtin.append_,run_underlying N,sizeOf,typeInfo,R,Builtin.lenOf,Builtin.firstCells,loadCells,loadCellsFrom]
   rw[I]at G;cases G;intro k J;simp[Value.ownBlock]at J
  ·have I:=run_append_nil (P:=P) w t ty e i z N R X a m c news O A (by omega) (by omega) (by have hb:=B;simp only[Nat.zero_add]at hb;omega);rw[I]at G;cases G;intro k J;simp[Value.ownBlock]at J;exact .inr (by omega)
 ·by_cases E:n+m<=cap
  ·have M:n*i.size+news.length<=cur.size:=by rw[O,V,<-Nat.add_mul];exact Nat.mul_le_mul_right _ E
   have I:=run_append_room (P:=P) w t ty e i N R g n cap cur Y a m c news O A Z E M;rw[I]at G;cases G;intro k J;exact .inl J
  ·have holds:∀j u,xs[j]?=some u->w.cell? ((⟨g,0,none⟩:Addr).add j)=some u:=D.cells (g:=g) rfl;have I:=run_append_grow (P:=P) w t ty e i z N R X ⟨g,0,none⟩ n cap xs D.1 holds a m c news O A (by omega) (by omega) (growslice_fits (by omega) B);rw[I]at G;cases G;intro k J;simp[Value.ownBlock]at J;exact .inr (by omega)
theorem zgD{o:Oper}{a:Act}{w:World}{K:Act->World->Prop}{Q:Exit->Act->World->Prop}(s x:Operand)(t:TypeId)
 (D:o.op=.call { callee:=.builtin .append,args:=#[s,x],argTypes:=#[t,t] })
 (base:Nat) (e:TypeId) (i:TypeInfo) (z:Value) (size bytes:Nat) (ht:P.underlying t=some (.slice e)) (hi:P.info? e=some i) (hz:i.zero=some z)
 (hsize:i.size=size) (hby:i.bytes=bytes) (hzs:z.cells.size=size) (hsz:0<size)
 (v:Value) (n:Nat) (xs:List Value) (hs:a.eval s=v) (hown:w.ownsRow base e size v n xs)
 (ad:Addr) (m c:Nat) (news:List Value) (hx:a.eval x=.slice (some ad) m c) (hl:news.length=m*size) (hnews:∀j u,news[j]?=some u->w.cell? (ad.add j)=some u) (h1:∀u∈news,u.oneCell'=true)
 (h63:n+m<=maxLen) (hbytes:(n+m)*bytes<=140737488355328) (hbase:base<=w.heap.size)
 (h:∀v' w',w'.ownsRow base e size v' (n+m) (xs++news)->w.grownBy w' v.ownBlock->(∀g,v'.ownBlock=some g->v.ownBlock=some g∨w.heap.size<=g)->K (a.put o.dst v') w'):o.wp P a w K Q:=by
 obtain⟨v',w',A,E,G,h4⟩:=run_append_own (P:=P) w base t o.type e i z size bytes ht hi hz hsize hby hzs hsz v n xs hown ad m c news hl hnews h1 h63 hbytes hbase;have B:=zei (P:=P) w base t o.type e i z size bytes ht hi hz hsize hby v n xs hown ad m c news hl hnews h1 h63 hbytes A;unfold Oper.wp execOp;simp only[D,resolve,invoke,builtin,Sem.run_bind,Sem.run_pure,Result.andThen_ok,List.map_toArray,List.map_cons,List.map_nil,hs,hx,A];exact h v' w' E G B
theorem uY(w:World){ops:Array Oper}{rest:List Oper}{o:Oper}{a:Act}{Q:Exit->Act->World->Prop}(A:o.guard=none)(s x:Operand)(t:TypeId)
 (B:o.op=.call { callee:=.builtin .append,args:=#[s,x],argTypes:=#[t,t] })
 (base:Nat) (e:TypeId) (i:TypeInfo) (z:Value) (size bytes:Nat) (ht:P.underlying t=some (.slice e)) (hi:P.info? e=some i) (hz:i.zero=some z)
 (hsize:i.size=size) (hby:i.bytes=bytes) (hzs:z.cells.size=size) (hsz:0<size)
 (v:Value) (n:Nat) (xs:List Value) (hs:a.eval s=v) (hown:w.ownsRow base e size v n xs)
 (ad:Addr) (m c:Nat) (news:List Value) (hx:a.eval x=.slice (some ad) m c) (hl:news.length=m*size) (hnews:∀j u,news[j]?=some u->w.cell? (ad.add j)=some u) (h1:∀u∈news,u.oneCell'=true)
 (h63:n+m<=maxLen) (hbytes:(n+m)*bytes<=140737488355328) (hbase:base<=w.heap.size)
 (h:∀v' w',w'.ownsRow base e size v' (n+m) (xs++news)->w.grownBy w' v.ownBlock->(∀g,v'.ownBlock=some g->v.ownBlock=some g∨w.heap.size<=g)->wpList P ops Q rest (a.put o.dst v') w'):wpList P ops Q (o::rest) a w:=
 wpList_plain A fun _ G=>zgD s x t B base e i z size bytes ht hi hz hsize hby hzs hsz v n xs hs hown ad m c news hx hl hnews h1 h63 hbytes hbase fun v' w' D H E=>G _ _ (h v' w' D H E)
end Go.Proofs.YtmgekibncmnmiaaGreatDoor
