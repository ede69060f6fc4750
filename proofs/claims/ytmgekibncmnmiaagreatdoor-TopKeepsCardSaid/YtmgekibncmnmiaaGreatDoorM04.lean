/- Parts of the proof of the law TopKeeps: contracts of the functions that it reaches, and plain laws of what they compute. Conditions: those in each statement. -/
import Derived.Test.YtmgekibncmnmiaaGreatDoorM01
import Derived.Test.YtmgekibncmnmiaaGreatDoorM02
set_option linter.unusedVariables false
set_option maxRecDepth 100000
set_option maxHeartbeats 4000000
open Go.Proofs.Tryz
namespace Go.Proofs.YtmgekibncmnmiaaGreatDoor
open Go Go.RowKit Go.ChangeShapes Go.WideShapes
theorem znH(a b:Int): -9223372036854775808<=vZ a b/\vZ a b<=9223372036854775807:=by
 unfold vZ uD;simp only[decide_eq_true_eq];split
 ·assumption
 ·split <;> omega
theorem zge(a b:Int): -9223372036854775808<=xD a b/\xD a b<=9223372036854775807:=by
 unfold xD uD;simp only[decide_eq_true_eq];split
 ·assumption
 ·split <;> omega
theorem zlY(n low high:Int)(h0: -9223372036854775808<=n/\n<=9223372036854775807)(h1: -9223372036854775808<=low/\low<=9223372036854775807)(h2: -9223372036854775808<=high/\high<=9223372036854775807): -9223372036854775808<=zaY n low high/\zaY n low high<=9223372036854775807:=by
 unfold zaY;split
 ·assumption
 ·split <;> assumption
theorem znI(a b:Int)(w:World)(A: -9223372036854775808<=a/\a<=9223372036854775807)(hb: -9223372036854775808<=b/\b<=9223372036854775807)(h: -9223372036854775808<=a-b/\a-b<=9223372036854775807):
 Calls prog 182 #[.int .i64 a,.int .i64 b] w fun e w'=>e=.returned (.tuple #[.int .i64 (a-b),.bool false])/\Below w.heap.size w w':=by
 go_enter func182,ntmps182;go_wp2_with (first | (go_at_call 224;refine(zjx _ _ _ A hb h).mono ?_;rintro e w' ⟨rfl,rfl⟩) | go_in);go_ret2;exact⟨rfl,by go_grown⟩
theorem zov(a b:Int)(w:World)(A: -9223372036854775808<=a/\a<=9223372036854775807)(hb: -9223372036854775808<=b/\b<=9223372036854775807)(h:¬(-9223372036854775808<=a-b/\a-b<=9223372036854775807)):
 Calls prog 182 #[.int .i64 a,.int .i64 b] w fun e w'=>e=.returned (.tuple #[.int .i64 (xD a b),.bool true])/\Below w.heap.size w w':=by
 have H:=zc h;clear h;go_enter func182,ntmps182;go_wp2_with (first | (go_at_call 224;refine(zhZ _ _ _ A hb H.out).mono ?_;rintro e w' ⟨rfl,rfl⟩) | (go_at_call 188;refine(zbw _ _ _ A hb).mono ?_;rintro e w' ⟨rfl,rfl⟩) | go_in);go_ret2;exact⟨rfl,by go_grown⟩
theorem zjA(a b:Int)(w:World)(A: -9223372036854775808<=a/\a<=9223372036854775807)(hb: -9223372036854775808<=b/\b<=9223372036854775807):
 Calls prog 182 #[.int .i64 a,.int .i64 b] w fun e w'=>e=.returned (.tuple #[.int .i64 (xD a b),.bool (!uD (a-b))])/\Below w.heap.size w w':=by
 by_cases h: -9223372036854775808<=a-b/\a-b<=9223372036854775807
 ·rw[uj h,zes h];exact znI a b w A hb h
 ·rw[vL h];exact zov a b w A hb h
theorem zow(a b:Int)(w:World)(A: -9223372036854775808<=a/\a<=9223372036854775807)(hb: -9223372036854775808<=b/\b<=9223372036854775807)(h: -9223372036854775808<=a+b/\a+b<=9223372036854775807):
 Calls prog 183 #[.int .i64 a,.int .i64 b] w fun e w'=>e=.returned (.tuple #[.int .i64 (a+b),.bool false])/\Below w.heap.size w w':=by
 go_enter func183,ntmps183;go_wp2_with (first | (go_at_call 202;refine(zbu _ _ _ A hb h).mono ?_;rintro e w' ⟨rfl,rfl⟩) | go_in);go_ret2;exact⟨rfl,by go_grown⟩
theorem zoU(a b:Int)(w:World)(A: -9223372036854775808<=a/\a<=9223372036854775807)(hb: -9223372036854775808<=b/\b<=9223372036854775807)(h:¬(-9223372036854775808<=a+b/\a+b<=9223372036854775807)):
 Calls prog 183 #[.int .i64 a,.int .i64 b] w fun e w'=>e=.returned (.tuple #[.int .i64 (vZ a b),.bool true])/\Below w.heap.size w w':=by
 have H:=zc h;clear h;go_enter func183,ntmps183;go_wp2_with (first | (go_at_call 202;refine(zff _ _ _ A hb H.out).mono ?_;rintro e w' ⟨rfl,rfl⟩) | (go_at_call 153;refine(zfg _ _ _ A hb).mono ?_;rintro e w' ⟨rfl,rfl⟩) | go_in);go_ret2;exact⟨rfl,by go_grown⟩
theorem zlZ(a b:Int)(w:World)(A: -9223372036854775808<=a/\a<=9223372036854775807)(hb: -9223372036854775808<=b/\b<=9223372036854775807):
 Calls prog 183 #[.int .i64 a,.int .i64 b] w fun e w'=>e=.returned (.tuple #[.int .i64 (vZ a b),.bool (!uD (a+b))])/\Below w.heap.size w w':=by
 by_cases h: -9223372036854775808<=a+b/\a+b<=9223372036854775807
 ·rw[uj h,zga h];exact zow a b w A hb h
 ·rw[vL h];exact zoU a b w A hb h
def zco(v from_ to:Int):Int:=vZ (xD v from_) to
def zgf(v from_ to:Int):Bool:=!uD (v-from_) || !uD (xD v from_+to)
theorem zkd(v f t:Int)(w:World)(E: -9223372036854775808<=v/\v<=9223372036854775807)(D: -9223372036854775808<=f/\f<=9223372036854775807)(G: -9223372036854775808<=t/\t<=9223372036854775807):
 Calls prog 130 #[.int .i64 v,.int .i64 f,.int .i64 t] w fun e w'=>e=.returned (.tuple #[.int .i64 (zco v f t),.bool (zgf v f t)])/\Below w.heap.size w w':=by
 cases hB:uD (v-f)
 ·have hm:zgf v f t=true:=by simp[zgf,hB]
  rw[hm];go_enter func130,ntmps130;go_wp2_with fail;refine(zjA _ _ _ E D).mono ?_;rintro e w1 ⟨rfl,A⟩;rw[hB];have H:=zc hB;clear hB;go_wp2_with fail;refine(zlZ _ _ _ (zge _ _) G).mono ?_;rintro e I ⟨rfl,B⟩;go_wp2;go_ret2;exact⟨rfl,zj A B A.size⟩
 ·have hm:zgf v f t=!uD (xD v f+t):=by simp[zgf,hB]
  rw[hm];clear hm;go_enter func130,ntmps130;go_wp2_with fail;refine(zjA _ _ _ E D).mono ?_;rintro e w1 ⟨rfl,A⟩;rw[hB];have H:=zc hB;clear hB;go_wp2_with fail;refine(zlZ _ _ _ (zge _ _) G).mono ?_;rintro e I ⟨rfl,B⟩;go_wp2;go_ret2;exact⟨rfl,zj A B A.size⟩
def zah(own m c:Int):Int:=if xD m (zaY c 0 1099511627776) <own then own else xD m (zaY c 0 1099511627776)
theorem zgg(own m c:Int)(w:World)(hm: -9223372036854775808<=m/\m<=9223372036854775807)(B: -9223372036854775808<=c/\c<=9223372036854775807):
 Calls prog 137 #[.int .i64 own,.int .i64 m,.int .i64 c] w fun e w'=>e=.returned (.int .i64 (zah own m c))/\Below w.heap.size w w':=by
 have A:=zlY c 0 1099511627776 B (by omega) (by omega);unfold zah;rcases Int.lt_trichotomy (xD m (zaY c 0 1099511627776)) own with k | k | k
 ·rw[if_pos k];go_enter func137,ntmps137;go_wp2_with (first | (go_at_call 189;refine(zbv _ _ _ _).mono ?_;rintro e w' ⟨rfl,rfl⟩) | (go_at_call 188;refine(zbw _ _ _ hm A).mono ?_;rintro e w' ⟨rfl,rfl⟩));go_ret;exact⟨rfl,by go_grown⟩
 ·rw[if_neg (by omega)];have K:=zc k;have k1:=Int.le_of_eq k;have k2:=Int.le_of_eq k.symm;have k3:¬xD m (zaY c 0 1099511627776) <own:=by omega
  clear k;go_enter func137,ntmps137;go_wp2_with (first | (go_at_call 189;refine(zbv _ _ _ _).mono ?_;rintro e w' ⟨rfl,rfl⟩) | (go_at_call 188;refine(zbw _ _ _ hm A).mono ?_;rintro e w' ⟨rfl,rfl⟩));go_ret;exact⟨by first | rfl | (rw[K.out];rfl),by go_grown⟩
 ·rw[if_neg (by omega)];go_enter func137,ntmps137;go_wp2_with (first | (go_at_call 189;refine(zbv _ _ _ _).mono ?_;rintro e w' ⟨rfl,rfl⟩) | (go_at_call 188;refine(zbw _ _ _ hm A).mono ?_;rintro e w' ⟨rfl,rfl⟩));go_ret;exact⟨rfl,by go_grown⟩
end Go.Proofs.YtmgekibncmnmiaaGreatDoor
namespace Go.Proofs.YtmgekibncmnmiaaGreatDoor
namespace Vr
open Go Go.RowKit Go.ChangeShapes Go.WideShapes
theorem zl5(w rem:Int)(W:World)(h1:2<=w)(h2:w<=262144)(h3:rem<w):
 Calls prog 234 #[.int .u64 w,.int .u64 rem] W fun e A=>e=.returned (.int .i64 0)/\W=A:=by
 go_enter func234,ntmps234;go_wp2;go_ret;exact⟨rfl,rfl⟩
theorem zqR(w rem ns:Int)(W:World)(B:2<=w)(A:w<=262144)(D:rem<w)(h4:0<=rem)(h5:0<=ns)(h6:ns<=1000000000):
 Calls prog 200 #[.int .u64 w,.int .u64 rem,.int .u64 ns] W fun e E=>e=.returned (.tuple #[.int .i64 ((rem+ns*1024) /w),.int .u64 ((rem+ns*1024) %w),.int .i64 0])/\∃n,W.drewN n=E:=by
 have q0:0<=(rem+ns*1024) /w:=Int.ediv_nonneg (by omega) (by omega);have q1:(rem+ns*1024) /w<=rem+ns*1024:=Int.ediv_le_self _ (by omega);go_enter func200,ntmps200;go_wp2_with fail;go_step3;go_wp2_with (go_at_call 234;refine(zl5 _ _ _ B A D).mono ?_;rintro e w' ⟨rfl,rfl⟩);go_step3;go_wp2;go_quiet (fail);go_wp2;rw[Exit.noGoto_ret];go_ret3;exact⟨rfl,_,rfl⟩
end Vr
end Go.Proofs.YtmgekibncmnmiaaGreatDoor
namespace Go.Proofs.YtmgekibncmnmiaaGreatDoor
open Go Go.RowKit Go.ChangeShapes Go.WideShapes
theorem yc{w:World}{base:Nat}{e:TypeId}{size:Nat}{v:Value}{n:Nat}{xs:List Value}{b:Nat}{o:Nat}{u:Value}(h:w.ownsRow base e size v n xs)(A:v.ownBlock≠some b):(w.setCell ⟨b,o,none⟩ u).ownsRow base e size v n xs:=by
 refine⟨h.1,?_⟩;rcases h.2 with G | ⟨g,cap,cur,B,hb,D,E⟩
 ·exact .inl G
 ·refine .inr ⟨g,cap,cur,B,hb,?_,E⟩;rw[Below.heap_setCell _ _ _ _ (by rintro rfl;exact A (by rw[B];rfl))];exact D
structure zrf where
 x:Int
 ui:Int
 ug:Int
 dp:Int
def zrf.zero:zrf:=⟨0,0,0,0⟩
abbrev zO(x:zrf):Array Value:=#[.int .i64 x.ui,.int .i64 x.ug,.int .i64 x.dp]
structure Pl where
 x:zrf
 gen:Int
 used:Bool
 next:Int
def Pl.cells(s:Pl):List Value:= [.int .i64 s.x.ui,.int .i64 s.x.ug,.int .i64 s.x.dp,.int .i64 s.gen,.bool s.used,.int .i64 s.next]
theorem Pl.zpw(s:Pl):s.cells.length=6:=rfl
def zp4(l:List Pl):List Value:=l.flatMap Pl.cells
def zrP(l:List Pl)(i:Nat)(c:List Value):List Value:=zp4 (l.take i)++c++zp4 (l.drop (i+1))
theorem vo(l:List Pl):(zp4 l).length=l.length*6:=by
 induction l with
 | nil=>rfl
 | cons a r ih=>
  have e:zp4 (a::r)=a.cells++zp4 r:=by simp[zp4]
  rw[e,List.length_append,Pl.zpw,ih,List.length_cons];omega
theorem yR(a b:List Pl):zp4 (a++b)=zp4 a++zp4 b:=by simp[zp4]
theorem zaq(l:List Pl)(i:Nat)(h:i<l.length):zrP l i (l[i].cells)=zp4 l:=by
 have e:l=l.take i++ [l[i]]++l.drop (i+1):=by simp
 have A:zp4 l=zp4 (l.take i++ [l[i]]++l.drop (i+1)):=congrArg zp4 e;rw[A,yR,yR];simp[zrP,zp4]
theorem zfs(l:List Pl)(i:Nat)(q:Pl)(h:i<l.length):zrP l i q.cells=zp4 (l.set i q):=by rw[List.set_eq_take_append_cons_drop,if_pos h,yR];simp[zrP,zp4]
theorem zb6(l:List Pl)(i:Nat)(c:List Value)(j:Nat)(u:Value)(h:i<l.length)(B:j<c.length):(zrP l i c).set (i*6+j) u=zrP l i (c.set j u):=by
 have A:(zp4 (l.take i)).length=i*6:=by rw[vo,List.length_take,Nat.min_eq_left (by omega)]
 unfold zrP;rw[List.append_assoc,List.set_append_right _ _ (by omega),A,Nat.add_sub_cancel_left,List.set_append_left _ _ B,<-List.append_assoc]
theorem zft(l:List Pl)(i:Nat)(c:List Value)(j:Nat)(h:i<l.length)(B:j<c.length):(zrP l i c)[i*6+j]?=c[j]?:=by
 have A:(zp4 (l.take i)).length=i*6:=by rw[vo,List.length_take,Nat.min_eq_left (by omega)]
 unfold zrP;rw[List.append_assoc,List.getElem?_append_right (by omega),A,Nat.add_sub_cancel_left,List.getElem?_append_left B]
theorem zfu(l:List Pl)(i j:Nat)(h:i<l.length)(A:j<6):(zp4 l)[i*6+j]?=(l[i].cells)[j]?:=by rw[<-zaq l i h,zft l i _ j h (by simpa[Pl.zpw]using A)]
structure zm(w:World)(base p:Nat)(v:Value)(room many free:Int)(l:List Pl):Prop where
 zp5:w.heap[p]?=some (.cells #[.int .i64 room,.int .i64 many,v,.int .i64 free] 209 (0,0))
 own:w.ownsRow base 211 6 v l.length (zp4 l)
 ne:v.ownBlock≠some p
 lo:base<=p
theorem zm.lt{w:World}{base p:Nat}{v:Value}{room many free:Int}{l:List Pl}(h:zm w base p v room many free l):p<w.heap.size:=(zd h.zp5).1
theorem zm.cell{w:World}{base p:Nat}{v:Value}{room many free:Int}{l:List Pl}(h:zm w base p v room many free l):
 w.cell? ⟨p,0,none⟩=some (.int .i64 room)/\w.cell? ⟨p,1,none⟩=some (.int .i64 many)/\w.cell? ⟨p,2,none⟩=some v/\w.cell? ⟨p,3,none⟩=some (.int .i64 free):=by
 have hb:=h.zp5;refine⟨?_,?_,?_,?_⟩ <;> simp[World.cell?,hb]
theorem zm.free{w:World}{base p:Nat}{v:Value}{room many free:Int}{l:List Pl}(h:zm w base p v room many free l)(i:Nat):w.frozen? ⟨p,i,none⟩=false:=by have hb:=h.zp5;simp[World.frozen?,hb]
theorem zm.row{w:World}{base p:Nat}{v:Value}{room many free:Int}{l:List Pl}(h:zm w base p v room many free l):
 (v=.slice none 0 0/\l= [])∨∃g cap,v=.slice (some ⟨g,0,none⟩) l.length cap/\base<=g/\g<w.heap.size/\g≠p/\l.length<=cap/\cap<=maxLen:=by
 rcases h.own.2 with⟨A,E⟩ | ⟨g,cap,cur,A,B,D,G,hm,_,_⟩
 ·exact .inl ⟨A,List.eq_nil_of_length_eq_zero E⟩
 ·refine .inr ⟨g,cap,A,B,(zd D).1,?_,G,hm⟩;have:=h.ne;rw[A]at this;simpa[Value.ownBlock]using this
theorem zm.place{w:World}{base p g cap:Nat}{room many free:Int}{l:List Pl}(h:zm w base p (.slice (some ⟨g,0,none⟩) l.length cap) room many free l)(i j:Nat)(B:i<l.length)(A:j<6):
 w.cell? ⟨g,i*6+j,none⟩=(l[i].cells)[j]?:=by
 rw[h.own.cellAt (i*6+j) (by omega),zfu l i j B A]
theorem zm.zpi{w:World}{base p g cap:Nat}{room many free:Int}{l:List Pl}(h:zm w base p (.slice (some ⟨g,0,none⟩) l.length cap) room many free l)(j:Nat):w.frozen? ⟨g,j,none⟩=false:=h.own.frozenAt j
theorem zm.alloc{w:World}{base p:Nat}{v:Value}{room many free:Int}{l:List Pl}(h:zm w base p v room many free l)(o:Obj):zm (w.alloc o) base p v room many free l:=
 ⟨by rw[Below.heap_alloc w o p h.lt];exact h.zp5,h.own.alloc o,h.ne,h.lo⟩
theorem zm.drewN{w:World}{base p:Nat}{v:Value}{room many free:Int}{l:List Pl}(h:zm w base p v room many free l)(n:Nat):zm (w.drewN n) base p v room many free l:=⟨h.zp5,h.own,h.ne,h.lo⟩
theorem zm.kept{w w':World}{base p:Nat}{v:Value}{room many free:Int}{l:List Pl}(h:zm w base p v room many free l)(hp:w'.heap[p]?=w.heap[p]?)(B:∀g,v.ownBlock=some g->w'.heap[g]?=w.heap[g]?):zm w' base p v room many free l:=by
 refine⟨by rw[hp];exact h.zp5,⟨h.own.1,?_⟩,h.ne,h.lo⟩;rcases h.own.2 with G | ⟨g,cap,cur,A,hb,D,E⟩
 ·exact .inl G
 ·exact .inr ⟨g,cap,cur,A,hb,by rw[B g (by rw[A];rfl)];exact D,E⟩
theorem zm.ztn{w:World}{base p g cap n:Nat}{room many free:Int}{l:List Pl}(h:zm w base p (.slice (some ⟨g,0,none⟩) n cap) room many free l):g<w.heap.size:=by
 rcases h.row with⟨A,_⟩ | ⟨b',h0,A,_,hb,_⟩
 ·cases A
 ·cases A;exact hb
theorem zm.len{w:World}{base p g cap n:Nat}{room many free:Int}{l:List Pl}(h:zm w base p (.slice (some ⟨g,0,none⟩) n cap) room many free l):n=l.length:=by
 rcases h.row with⟨A,_⟩ | ⟨b',h0,A,_⟩
 ·cases A
 ·cases A;rfl
theorem zm.store{w:World}{base p g cap n:Nat}{room many free:Int}{l:List Pl}(h:zm w base p (.slice (some ⟨g,0,none⟩) n cap) room many free l)(k j:Nat)(u:Value)(q q':Pl)(E:l[k]?=some q)(H:j<6)(G:q.cells.set j u=q'.cells):
 zm (w.setCell ⟨g,k*6+j,none⟩ u) base p (.slice (some ⟨g,0,none⟩) n cap) room many free (l.set k q'):=by
 obtain rfl:=h.len;obtain⟨A,rfl⟩:=ze E;have B:g≠p:=by have:=h.ne;simpa[Value.ownBlock]using this
 refine⟨?_,?_,h.ne,h.lo⟩
 ·rw[Below.heap_setCell _ _ _ _ (by exact fun e=>B e.symm)];exact h.zp5
 ·have D:=(h.own.stored (k*6+j) u).1;have e:(zp4 l).set (k*6+j) u=zp4 (l.set k q'):=by have:=zb6 l k (l[k].cells) j u A (by simpa[Pl.zpw]using H);rw[zaq l k A]at this;rw[this,G,zfs l k q' A]
  rw[e]at D;rw[List.length_set];exact D
theorem zm.zto{w:World}{base p g cap n:Nat}{room many free:Int}{l:List Pl}(h:zm w base p (.slice (some ⟨g,0,none⟩) n cap) room many free l)(k:Nat)(q q':Pl)(B:l[k]?=some q)(G:q'.gen=q.gen)(hu:q'.used=q.used)(I:q'.next=q.next):
 zm (((w.setCell ⟨g,k*6,none⟩ (.int .i64 q'.x.ui)).setCell ⟨g,k*6+1,none⟩ (.int .i64 q'.x.ug)).setCell ⟨g,k*6+2,none⟩ (.int .i64 q'.x.dp)) base p (.slice (some ⟨g,0,none⟩) n cap) room many free (l.set k q'):=by
 have D:=(ze B).1;have H:=h.store k 0 (.int .i64 q'.x.ui) q ⟨⟨q'.x.x,q'.x.ui,q.x.ug,q.x.dp⟩,q.gen,q.used,q.next⟩ B (by omega) rfl;have E:=H.store k 1 (.int .i64 q'.x.ug) _ ⟨⟨q'.x.x,q'.x.ui,q'.x.ug,q.x.dp⟩,q.gen,q.used,q.next⟩ (List.getElem?_set_self D) (by omega) rfl;have A:=E.store k 2 (.int .i64 q'.x.dp) _ ⟨q'.x,q.gen,q.used,q.next⟩ (List.getElem?_set_self (by simpa using D)) (by omega) rfl;simp only[List.set_set,Nat.add_zero]at A;have e:(⟨q'.x,q.gen,q.used,q.next⟩:Pl)=q':=by rw[<-G,<-hu,<-I]
 rw[e]at A;exact A
theorem zm.zrI{w:World}{base p:Nat}{v:Value}{room many free:Int}{l:List Pl}(h:zm w base p v room many free l)(m:Int):zm (w.setCell ⟨p,1,none⟩ (.int .i64 m)) base p v room m free l:=by refine⟨by rw[zi h.zp5];rfl,?_,h.ne,h.lo⟩;exact(yc h.own h.ne)
theorem zm.zrt{w:World}{base p:Nat}{v:Value}{room many free:Int}{l:List Pl}(h:zm w base p v room many free l)(m:Int):zm (w.setCell ⟨p,3,none⟩ (.int .i64 m)) base p v room many m l:=
 ⟨by rw[zi h.zp5];rfl,yc h.own h.ne,h.ne,h.lo⟩
theorem zm.zpP{w:World}{base p:Nat}{v:Value}{room many free:Int}{l:List Pl}(h:zm w base p v room many free l){c o:Nat}{u:Value}(B:c≠p)(A:v.ownBlock≠some c):zm (w.setCell ⟨c,o,none⟩ u) base p v room many free l:=
 ⟨by rw[Below.heap_setCell _ _ _ _ (by exact fun e=>B e.symm)];exact h.zp5,yc h.own A,h.ne,h.lo⟩
theorem zm.zsM{w:World}{base p g cap n:Nat}{room many free:Int}{l:List Pl}(h:zm w base p (.slice (some ⟨g,0,none⟩) n cap) room many free l)(k:Nat)(q q':Pl)(B:l[k]?=some q)(E:q'.gen=q.gen):
 zm (((((w.setCell ⟨g,k*6,none⟩ (.int .i64 q'.x.ui)).setCell ⟨g,k*6+1,none⟩ (.int .i64 q'.x.ug)).setCell ⟨g,k*6+2,none⟩ (.int .i64 q'.x.dp)).setCell ⟨g,k*6+4,none⟩ (.bool q'.used)).setCell ⟨g,k*6+5,none⟩ (.int .i64 q'.next)) base p (.slice (some ⟨g,0,none⟩) n cap) room many free (l.set k q'):=by
 have D:=(ze B).1;have H:=h.zto k q ⟨q'.x,q.gen,q.used,q.next⟩ B rfl rfl rfl;have G:=H.store k 4 (.bool q'.used) _ ⟨q'.x,q.gen,q'.used,q.next⟩ (List.getElem?_set_self D) (by omega) rfl;have A:=G.store k 5 (.int .i64 q'.next) _ ⟨q'.x,q.gen,q'.used,q'.next⟩ (List.getElem?_set_self (by simpa using D)) (by omega) rfl;simp only[List.set_set]at A;have e:(⟨q'.x,q.gen,q'.used,q'.next⟩:Pl)=q':=by rw[<-E]
 rw[e]at A;exact A
theorem zm.grow{w0 w1:World}{base p:Nat}{v v':Value}{room many free:Int}{l:List Pl}(h:zm w0 base p v room many free l)(q:Pl)(D:w0.grownBy w1 v.ownBlock)(B:w1.ownsRow base 211 6 v' (l.length+1) (zp4 l++q.cells))(A:v'.ownBlock≠some p):
 zm (w1.setCell ⟨p,2,none⟩ v') base p v' room many free (l++ [q]):=by
 have hb:w1.heap[p]?=some (.cells #[.int .i64 room,.int .i64 many,v,.int .i64 free] 209 (0,0)):=by rw[D.block p h.lt (fun e=>h.ne e.symm)];exact h.zp5
 refine⟨by rw[zi hb];rfl,?_,A,h.lo⟩;have e:zp4 (l++ [q])=zp4 l++q.cells:=by rw[yR];simp[zp4]
 rw[e,List.length_append];exact yc B A
theorem zdm{w0 w1:World}{base p:Nat}{v v':Value}{n:Nat}{xs:List Value}{e:TypeId}{size:Nat}(A:v.ownBlock≠some p)(E:w0.grownBy w1 v.ownBlock)(G:w1.ownsRow base e size v' n xs){o:Obj}(hb:w0.heap[p]?=some o)(D:∀cs z,o≠.cells cs e z):v'.ownBlock≠some p:=by
 rcases G.2 with⟨rfl,_⟩ | ⟨g,cap,cur,rfl,_,B,_⟩
 ·simp[Value.ownBlock]
 ·intro hp;simp[Value.ownBlock]at hp;subst hp;have:=E.block g (zd hb).1 (fun e=>A e.symm);rw[hb]at this;rw[this]at B;exact D cur (0,0) (by simpa using B)
theorem zig(i g:Int)(w:World)(p:Nat)(hi:i<0):
 Calls prog 177 #[.pointer (some ⟨p,0,none⟩),.agg #[.int .i64 i,.int .i64 g]] w fun e w'=>e=.returned (.pointer none)/\∃n,(w.alloc (.cells #[.int .i64 i,.int .i64 g] 78)).drewN n=w':=by
 go_enter func177,ntmps177;go_wp2;go_quiet (fail);go_wp2;go_ret;exact⟨rfl,_,rfl⟩
theorem zdn(i g:Int)(w:World)(p:Nat)(a:Option Addr)(len cap:Nat)(hp:p<w.heap.size)(hc:w.cell? ⟨p,2,none⟩=some (.slice a len cap))(hi:(len:Int)<=i)(h0:0<=i):
 Calls prog 177 #[.pointer (some ⟨p,0,none⟩),.agg #[.int .i64 i,.int .i64 g]] w fun e w'=>e=.returned (.pointer none)/\∃n,(w.alloc (.cells #[.int .i64 i,.int .i64 g] 78)).drewN n=w':=by
 go_enter func177,ntmps177;go_wp2;go_quiet (fail);go_wp2;go_ret;exact⟨rfl,_,rfl⟩
theorem zgC(k:Nat)(g:Int)(w:World)(p b:Nat)(len cap:Nat)(q:Pl)(hp:p<w.heap.size)(hb:b<w.heap.size)(hc:w.cell? ⟨p,2,none⟩=some (.slice (some ⟨b,0,none⟩) len cap))(hk:k<len)(hlen:len<=4096)
 (h1:w.cell? ⟨b,k*6+3,none⟩=some (.int .i64 q.gen)) (B:w.cell? ⟨b,k*6+4,none⟩=some (.bool q.used)):
 Calls prog 177 #[.pointer (some ⟨p,0,none⟩),.agg #[.int .i64 k,.int .i64 g]] w fun e w'=>e=.returned (if q.used=true/\q.gen=g then .pointer (some ⟨b,k*6,none⟩)else .pointer none)/\∃n,(w.alloc (.cells #[.int .i64 k,.int .i64 g] 78)).drewN n=w':=by
 cases hu:q.used
 ·rw[if_neg (by simp)];rw[hu]at B;clear hu;go_enter func177,ntmps177;go_wp2;go_quiet (fail);go_wp2;go_quiet (fail);go_wp2;go_quiet (fail);go_wp2;go_ret;refine⟨rfl,?_⟩;simp only[World.drewN_drewN];exact⟨_,rfl⟩
 ·by_cases A:q.gen=g
  ·rw[if_pos ⟨rfl,A⟩];have D:(q.gen == g)=true:=beq_iff_eq.2 A;rw[hu]at B;clear hu A;go_enter func177,ntmps177;go_wp2;go_quiet (fail);go_wp2;go_quiet (fail);go_wp2;go_quiet (fail);go_wp2;go_ret;refine⟨rfl,?_⟩;simp only[World.drewN_drewN];exact⟨_,rfl⟩
  ·rw[if_neg (by simp[A])];have D:(q.gen == g)=false:=beq_eq_false_iff_ne.2 A;rw[hu]at B;clear hu A;go_enter func177,ntmps177;go_wp2;go_quiet (fail);go_wp2;go_quiet (fail);go_wp2;go_quiet (fail);go_wp2;go_ret;refine⟨rfl,?_⟩;simp only[World.drewN_drewN];exact⟨_,rfl⟩
def zar(l:List Pl)(i g:Int)(k:Nat)(q:Pl):Prop:=i=(k:Int)/\l[k]?=some q/\q.used=true/\q.gen=g
def qd(l:List Pl)(i g:Int):Prop:=∀k q,¬zar l i g k q
def zru(w:World)(z:Nat):Prop:=∃cs fr,w.heap[z]?=some (.cells cs 211 fr)
def zpB(w:World)(p z:Nat):Prop:=∃v,w.cell? ⟨p,2,none⟩=some v/\v.ownBlock=some z
def PF(p:Nat)(w:World)(z:Nat):Prop:=z=p∨(zru w z/\zpB w p z)
structure zpa(base p:Nat)(w w':World):Prop where
 zpW:zo8 (PF p w) w w'
 below:Below base w w'
 row:p<w.heap.size->∀z,z<w.heap.size->zpB w' p z->zpB w p z
theorem zpa.trans{base p:Nat}{a b c:World}(h:zpa base p a b)(k:zpa base p b c)(hp:p<a.heap.size):zpa base p a c:=
 ⟨h.zpW.trans k.zpW (fun x G=>by
  by_cases A:x<a.heap.size
  ·left;rcases G with rfl | ⟨⟨cs,fr,hb⟩,B⟩
   ·exact .inl rfl
   ·by_cases E:PF p a x
    ·exact E
    ·rw[h.zpW.block x A E]at hb;exact .inr ⟨⟨cs,fr,hb⟩,h.row hp x A B⟩
  ·right;omega),h.below.trans k.below,fun _ z D B=>h.row hp z D (k.row (zf hp h.zpW.size) z (zf D h.zpW.size) B)⟩
theorem zpB.same{w w':World}{p z:Nat}(h:zpB w' p z)(hp:w'.heap[p]?=w.heap[p]?):zpB w p z:=by obtain⟨v,B,A⟩:=h;refine⟨v,?_,A⟩;rw[<-B];simp[World.cell?,hp]
theorem zpa.zo7{base p:Nat}{w w':World}(h:Below w.heap.size w w')(hb:base<=w.heap.size):zpa base p w w':=⟨zo8.zo7 h,zcY h hb,fun hp z _ A=>A.same (h.block p hp)⟩
theorem zm.rowOf{w:World}{base p g cap n:Nat}{room many free:Int}{l:List Pl}(h:zm w base p (.slice (some ⟨g,0,none⟩) n cap) room many free l):zpB w p g:=⟨_,h.cell.2.2.1,rfl⟩
theorem zm.rowIs{w:World}{base p:Nat}{v:Value}{room many free:Int}{l:List Pl}(h:zm w base p v room many free l){z:Nat}(D:zpB w p z):v.ownBlock=some z:=by obtain⟨u,A,B⟩:=D;rw[h.cell.2.2.1]at A;cases A;exact B
theorem zm.zsr{w w':World}{base p g cap n n' E:Nat}{room many free D B A:Int}{l I:List Pl}(h:zm w base p (.slice (some ⟨g,0,none⟩) n cap) room many free l)(G:zm w' base p (.slice (some ⟨g,0,none⟩) n' E) D B A I):∀z,zpB w' p z->zpB w p z:=fun z H=>by have:=G.rowIs H;simp[Value.ownBlock]at this;exact this▸h.rowOf
theorem zm.zru{w:World}{base p g cap n:Nat}{room many free:Int}{l:List Pl}(h:zm w base p (.slice (some ⟨g,0,none⟩) n cap) room many free l):zru w g:=by
 rcases h.own.2 with⟨A,_⟩ | ⟨g',h0,cur,A,_,B,_⟩
 ·cases A
 ·cases A;exact⟨_,_,B⟩
theorem zm.zqb{w:World}{base p g cap n:Nat}{room many free:Int}{l:List Pl}(h:zm w base p (.slice (some ⟨g,0,none⟩) n cap) room many free l):base<=g:=by
 rcases h.row with⟨A,_⟩ | ⟨b',h0,A,hb,_⟩
 ·cases A
 ·cases A;exact hb
theorem zm.step{w w':World}{base p g cap n:Nat}{room many free:Int}{l:List Pl}(h:zm w base p (.slice (some ⟨g,0,none⟩) n cap) room many free l)(hb:base<=w.heap.size)(A:zo8 (fun z=>z=g∨z=p) w w')(E:∀z,zpB w' p z->zpB w p z):zpa base p w w':=
 ⟨⟨A.os,A.tape,A.output,A.size,fun k B D=>A.block k B (fun e=>D (by rcases e with rfl | rfl;exact .inr ⟨h.zru,h.rowOf⟩;exact .inl rfl))⟩,
  A.below hb (fun k B=>by rcases B with rfl | rfl;exact h.zqb;exact h.lo),fun _ z _=>E z⟩
theorem zpa.same{base p:Nat}{w w':World}(h:zpa base p w w'){k:Nat}{cs:Array Value}{t:TypeId}{fr:Nat×Nat}(A:w.heap[k]?=some (.cells cs t fr))(hp:k≠p)(B:t≠211):w'.heap[k]?=some (.cells cs t fr):=by
 rw[h.zpW.block k (zd A).1 ?_]
 ·exact A
 ·rintro(e | ⟨⟨h0,h1,hb⟩,_⟩)
  ·exact hp e
  ·rw[A]at hb;simp only[Option.some.injEq,Obj.cells.injEq]at hb;exact B hb.2.1
theorem zih(i g:Int)(k:Nat)(q:Pl)(w:World)(base p b cap:Nat)(room many free:Int)(l:List Pl)(h:zm w base p (.slice (some ⟨b,0,none⟩) l.length cap) room many free l)(I:l.length<=4096)(J:zar l i g k q):
 Calls prog 177 #[.pointer (some ⟨p,0,none⟩),.agg #[.int .i64 i,.int .i64 g]] w fun e w'=>e=.returned (.pointer (some ⟨b,k*6,none⟩))/\∃n,(w.alloc (.cells #[.int .i64 i,.int .i64 g] 78)).drewN n=w':=by
 obtain⟨rfl,H,hu,G⟩:=J;obtain⟨A,B⟩:=ze H;have hb:b<w.heap.size:=h.ztn;have E:=h.place k 3 A (by omega);have D:=h.place k 4 A (by omega);rw[B]at E D;have c:=zgC k g w p b l.length cap q h.lt hb h.cell.2.2.1 A I E D;rwa[if_pos ⟨hu,G⟩]at c
theorem zfv(i g:Int)(w:World)(base p:Nat)(v:Value)(room many free:Int)(l:List Pl)(h:zm w base p v room many free l)(H:l.length<=4096)(I:qd l i g):
 Calls prog 177 #[.pointer (some ⟨p,0,none⟩),.agg #[.int .i64 i,.int .i64 g]] w fun e w'=>e=.returned (.pointer none)/\∃n,(w.alloc (.cells #[.int .i64 i,.int .i64 g] 78)).drewN n=w':=by
 by_cases B:i<0
 ·exact zig i g w p B
 ·by_cases D:(l.length:Int)<=i
  ·rcases h.row with⟨rfl,rfl⟩ | ⟨b,cap,rfl,_⟩
   ·exact zdn i g w p _ 0 0 h.lt h.cell.2.2.1 (by simpa using D) (by omega)
   ·exact zdn i g w p _ _ cap h.lt h.cell.2.2.1 D (by omega)
  ·obtain⟨k,rfl⟩:=Int.eq_ofNat_of_zero_le (Int.not_lt.1 B);have A:k<l.length:=by omega
   rcases h.row with⟨_,rfl⟩ | ⟨b,cap,rfl,_,hb,_⟩
   ·simp at A
   ·have J:=h.place k 3 A (by omega);have G:=h.place k 4 A (by omega);have c:=zgC k g w p b l.length cap l[k] h.lt hb h.cell.2.2.1 A H J G;rwa[if_neg (fun E=>I k l[k] ⟨rfl,List.getElem?_eq_getElem A,E.1,E.2⟩)]at c
theorem zmm(i g:Int)(w:World)(base p:Nat)(v:Value)(room many free:Int)(l:List Pl)(h:zm w base p v room many free l)(E:l.length<=4096)(B:qd l i g):
 Calls prog 119 #[.pointer (some ⟨p,0,none⟩),.agg #[.int .i64 i,.int .i64 g]] w fun e w'=>e=.returned (.tuple #[.agg (zO .zero),.int .i64 2])/\Below w.heap.size w w':=by
 have D:=zc (fun o A=>zfv i g ((w.alloc o).alloc A) base p v room many free l ((h.alloc o).alloc A) E B);clear h B;go_enter func119,ntmps119;go_wp2_with (go_at_call 177;refine(D.out _ _).mono ?_;rintro e w1 ⟨rfl,n,rfl⟩);refine bodyPost_ret (v:=.tuple #[.agg (zO .zero),.int .i64 2]) (by simp[results,results119,go_sem,zrf.zero]) rfl ⟨rfl,?_⟩;exact((((zp ((((Below.refl _ _).alloc (zg _) _).alloc (by simp) _).alloc (by simp;omega) _) _).setCell (by simp) _).setCell (by simp) _).setCell (by simp) _)
theorem znM(i g:Int)(k:Nat)(q:Pl)(w:World)(base p b cap:Nat)(room many free:Int)(l:List Pl)(h:zm w base p (.slice (some ⟨b,0,none⟩) l.length cap) room many free l)(M:l.length<=4096)(H:zar l i g k q):
 Calls prog 119 #[.pointer (some ⟨p,0,none⟩),.agg #[.int .i64 i,.int .i64 g]] w fun e w'=>e=.returned (.tuple #[.agg (zO q.x),.int .i64 0])/\Below w.heap.size w w':=by
 have J:=zc (fun o I=>zih i g k q ((w.alloc o).alloc I) base p b cap room many free l ((h.alloc o).alloc I) M H);have hb:=h.ztn;obtain⟨G,E⟩:=ze H.2.1;have A:=h.place k 0 G (by omega);have B:=h.place k 1 G (by omega);have D:=h.place k 2 G (by omega);rw[E]at A B D;have h2:w.cell? ⟨b,k*6,none⟩=some (.int .i64 q.x.ui):=A;have h1:w.cell? ⟨b,k*6+1,none⟩=some (.int .i64 q.x.ug):=B;have h0:w.cell? ⟨b,k*6+2,none⟩=some (.int .i64 q.x.dp):=D;have h4:b<w.heap.size+1:=by omega
 have h3:b<w.heap.size+1+1:=by omega
 have h5:b<w.heap.size+2:=by omega
 clear h H A B D E;go_enter func119,ntmps119;go_wp2_with (go_at_call 177;refine(J.out _ _).mono ?_;rintro e w1 ⟨rfl,n,rfl⟩);refine bodyPost_ret (v:=.tuple #[.agg (zO q.x),.int .i64 0]) (by simp[results,results119,go_sem]) rfl ⟨rfl,?_⟩;exact((((zp ((((Below.refl _ _).alloc (zg _) _).alloc (by simp) _).alloc (by simp;omega) _) _).setCell (by simp) _).setCell (by simp) _).setCell (by simp) _)
theorem zq8(room:Int)(w:World)(h:1<=room/\room<=4096):
 Calls prog 67 #[.int .i64 room] w fun e w'=>e=.returned (.tuple #[.pointer (some ⟨w.heap.size,0,none⟩),.int .i64 0])/\
  w.alloc (.cells #[.int .i64 room,.int .i64 0,.slice none 0 0,.int .i64 (-1)] 209)=w':=by
 go_enter func67,ntmps67;go_wp2;go_ret2;exact⟨rfl,rfl⟩
theorem zm.made(w:World)(room:Int)(base:Nat)(h:base<=w.heap.size):zm (w.alloc (.cells #[.int .i64 room,.int .i64 0,.slice none 0 0,.int .i64 (-1)] 209)) base w.heap.size (.slice none 0 0) room 0 (-1) []:=
 ⟨heap_alloc_new w _,World.ownsRow_nil _ _ _ _,by simp[Value.ownBlock],h⟩
theorem zdo(x:zrf)(w:World)(base p:Nat)(v:Value)(room many free:Int)(l:List Pl)(h:zm w base p v room many free l)(hm:many=room):
 Calls prog 68 #[.pointer (some ⟨p,0,none⟩),.agg (zO x)] w fun e w'=>e=.returned (.tuple #[.agg #[.int .i64 0,.int .i64 0],.int .i64 3])/\Below w.heap.size w w':=by
 subst hm;have h1:=h.lt;obtain⟨c0,c1,c2,c3⟩:=h.cell;clear h;go_enter func68,ntmps68;go_wp2;go_quiet (fail);go_wp2;refine bodyPost_ret (v:=.tuple #[.agg #[.int .i64 0,.int .i64 0],.int .i64 3]) (by simp[results,results68,go_sem]) rfl ⟨rfl,?_⟩;exact((zp (((Below.refl _ _).alloc (zg _) _).alloc (by simp) _) _).setCell (by simp) _).setCell (by simp) _
theorem zb7(x:zrf)(k:Nat)(q:Pl)(w:World)(base p b cap:Nat)(room many:Int)(l:List Pl)(h:zm w base p (.slice (some ⟨b,0,none⟩) l.length cap) room many k l)(hl:l.length<=4096)(I:l[k]?=some q)(hm: -1000000<=many/\many<=4096)(hr:many<room):
 Calls prog 68 #[.pointer (some ⟨p,0,none⟩),.agg (zO x)] w fun e w'=>e=.returned (.tuple #[.agg #[.int .i64 k,.int .i64 q.gen],.int .i64 0])/\
  zm w' base p (.slice (some ⟨b,0,none⟩) l.length cap) room (many+1) q.next (l.set k ⟨x,q.gen,true,-1⟩)/\zo8 (fun z=>z=b∨z=p) w w':=by
 have hb:=h.ztn;have H3:b<w.heap.size+1:=by omega
 have hv:b<w.heap.size+1+1:=by omega
 have H4:b<w.heap.size+2:=by omega
 have hp:=h.lt;have h7:p<w.heap.size+1:=by omega
 have hi:p<w.heap.size+1+1:=by omega
 have hf:p<w.heap.size+2:=by omega
 have h8:b≠p:=by have:=h.ne;simpa[Value.ownBlock]using this
 obtain⟨E,G⟩:=ze I;have A:=h.place k 0 E (by omega);have B:=h.place k 1 E (by omega);have D:=h.place k 2 E (by omega);have J:=h.place k 3 E (by omega);have H:=h.place k 4 E (by omega);have M:=h.place k 5 E (by omega);rw[G]at A B D J H M;have h5:w.cell? ⟨b,k*6,none⟩=some (.int .i64 q.x.ui):=A;have h4:w.cell? ⟨b,k*6+1,none⟩=some (.int .i64 q.x.ug):=B;have h0:w.cell? ⟨b,k*6+2,none⟩=some (.int .i64 q.x.dp):=D;have ho:w.cell? ⟨b,k*6+3,none⟩=some (.int .i64 q.gen):=J;have hj:w.cell? ⟨b,k*6+4,none⟩=some (.bool q.used):=H;have ht:w.cell? ⟨b,k*6+5,none⟩=some (.int .i64 q.next):=M;have hc:=h.zpi (k*6)
 have H2:=h.zpi (k*6+3);have hz:=h.zpi (k*6+4);have h9:=h.zpi (k*6+5);have hn:=h.zpi (k*6+1);have hh:=h.zpi (k*6+2);obtain⟨c0,c1,c2,c3⟩:=h.cell;have hg:=h.free 1;have ha:=h.free 3;have H0:(many == room)=false:=beq_eq_false_iff_ne.2 (by omega);have h6:((k:Int) == -1)=false:=beq_eq_false_iff_ne.2 (by omega);have R:=zc I;have T:=zc h;clear h A B D J H M G I;go_enter func68,ntmps68;go_wp2;go_quiet (fail);go_wp2;refine bodyPost_ret (v:=.tuple #[.agg #[.int .i64 k,.int .i64 q.gen],.int .i64 0]) (by simp[results,results68,go_sem]) rfl ⟨rfl,?_⟩;have O:w.heap.size+1≠p:=by omega
 have N:(Value.slice (some ⟨b,0,none⟩) l.length cap).ownBlock≠some (w.heap.size+1):=by simp[Value.ownBlock];omega
 exact⟨((((((((T.out.alloc _).alloc _).drewN _).zrI (many+1)).zrt q.next).zsM k q ⟨x,q.gen,true,-1⟩ R.out rfl).zpP O N).zpP O N),
  ((((((((((((zo8.refl (fun z=>z=b∨z=p) w).alloc _).alloc _).drewN _).setCell (.inl (.inr rfl)) _).setCell (.inl (.inr rfl)) _).setCell (.inl (.inl rfl)) _).setCell (.inl (.inl rfl)) _).setCell (.inl (.inl rfl)) _).setCell (.inl (.inl rfl)) _).setCell (.inl (.inl rfl)) _).setCell (.inr (by simp)) _).setCell (.inr (by simp)) _⟩
def plz:Pl:=⟨.zero,0,false,0⟩
def zrk(l:List Pl)(k:Nat):Nat:=(l.getD k plz).x.ui.toNat
theorem zbG{l:List Pl}{k:Nat}{q:Pl}(h:l[k]?=some q):l.getD k plz=q:=by rw[List.getD_eq_getElem?_getD,h];rfl
def zr1(l:List Pl)(k:Nat):Prop:=∃q,l[k]?=some q/\q.used=true
def dep(l:List Pl)(k:Nat):Nat:=(l.getD k plz).x.dp.toNat
structure Tr(l:List Pl):Prop where
 root:∃q,l[0]?=some q/\q.used=true/\q.gen=0/\q.x=⟨-1,0,0,0⟩
 kid:∀(k:Nat) (q:Pl),l[k]?=some q->q.used=true->k≠0->∃(j:Nat) (p:Pl),l[j]?=some p/\p.used=true/\q.x=⟨j,j,p.gen,p.x.dp+1⟩/\1<=q.x.dp/\q.x.dp<=8
theorem Tr.ztp{l:List Pl}(h:Tr l):zr1 l 0:=by obtain⟨q,A,hu,_⟩:=h.root;exact⟨q,A,hu⟩
theorem Tr.dp{l:List Pl}(h:Tr l){k:Nat}{q:Pl}(B:l[k]?=some q)(hu:q.used=true):0<=q.x.dp/\q.x.dp<=8/\(q.x.dp=0↔k=0)/\q.x.dp=(dep l k:Nat):=by
 have hd:dep l k=q.x.dp.toNat:=by unfold dep;rw[zbG B]
 by_cases D:k=0
 ·subst D;obtain⟨q',A,_,_,E⟩:=h.root;rw[B]at A;cases A;rw[hd,E];simp
 ·obtain⟨j,p,_,_,_,h1,h2⟩:=h.kid k q B hu D;rw[hd];omega
theorem Tr.up{l:List Pl}(h:Tr l){k:Nat}(hu:zr1 l k)(G:k≠0):zr1 l (zrk l k)/\dep l k=dep l (zrk l k)+1:=by
 obtain⟨q,B,hu⟩:=hu;obtain⟨j,p,hp,A,E,h1,h2⟩:=h.kid k q B hu G;have H:zrk l k=j:=by unfold zrk;rw[zbG B,E];simp
 rw[H];have D:=(h.dp B hu).2.2.2;have e2:=(h.dp hp A).2.2.2;refine⟨⟨p,hp,A⟩,?_⟩;rw[E]at D;simp only at D;omega
theorem Tr.zr2{l:List Pl}(h:Tr l){k:Nat}(hu:zr1 l k):dep l k<=8/\(dep l k=0↔k=0):=by obtain⟨q,A,hu⟩:=hu;obtain⟨h1,h2,h3,h4⟩:=h.dp A hu;omega
def zcH(l:List Pl):Nat->Nat->List Nat
 | 0,k=> [k]
 | n+1,k=>if k=0 then [0]else k::zcH l n (zrk l k)
def zqd(l:List Pl)(k:Nat):List Nat:=zcH l 8 k
theorem qg(l:List Pl):∀n,zcH l n 0= [0]
 | 0=>rfl
 | n+1=>by simp[zcH]
theorem zgE{l:List Pl}(h:Tr l):∀(n m k:Nat),zr1 l k->dep l k<=n->dep l k<=m->zcH l n k=zcH l m k
 | 0,m,k,hu,hn,hm=>by have A:k=0:=(h.zr2 hu).2.1 (by omega);subst A;rw[qg,qg]
 | n+1,0,k,hu,hn,hm=>by have A:k=0:=(h.zr2 hu).2.1 (by omega);subst A;rw[qg,qg]
 | n+1,m+1,k,hu,hn,hm=>by
  by_cases A:k=0
  ·subst A;rw[qg,qg]
  ·obtain⟨B,h2⟩:=h.up hu A;simp only[zcH,if_neg A];rw[zgE h n m (zrk l k) B (by omega) (by omega)]
theorem zdq(l:List Pl):zqd l 0= [0]:=qg l 8
theorem zdr{l:List Pl}(h:Tr l){k:Nat}(hu:zr1 l k)(A:k≠0):zqd l k=k::zqd l (zrk l k):=by obtain⟨B,h2⟩:=h.up hu A;have h3:=(h.zr2 hu).1;show zcH l 8 k=k::zcH l 8 (zrk l k);rw[show zcH l 8 k=if k=0 then [0]else k::zcH l 7 (zrk l k)from rfl,if_neg A,zgE h 7 8 (zrk l k) B (by omega) (by omega)]
theorem Tr.induct{l:List Pl}(h:Tr l){P:Nat->Prop}(B:P 0)(hs:∀k,zr1 l k->k≠0->P (zrk l k)->P k):∀k,zr1 l k->P k:=by
 have go:∀n k,dep l k<=n->zr1 l k->P k:=by
  intro n
  induction n with
  | zero=>intro k E hu;rw[(h.zr2 hu).2.1 (by omega)];exact B
  | succ n ih=>
   intro k E hu;by_cases A:k=0
   ·rw[A];exact B
   ·obtain⟨D,h2⟩:=h.up hu A;exact hs k hu A (ih _ (by omega) D)
 exact fun k hu=>go _ k (zg _) hu
theorem zmp{l:List Pl}(h:Tr l){k:Nat}(hu:zr1 l k):k∈zqd l k:=by
 by_cases A:k=0
 ·subst A;rw[zdq];simp
 ·rw[zdr h hu A];simp
def zsj(l:List Pl)(a b:Nat):Bool:=decide (b∈zqd l a)
theorem un{l:List Pl}{b:Nat}:zsj l 0 b=decide (b=0):=by unfold zsj;rw[zdq];simp
theorem uo{l:List Pl}(h:Tr l){a:Nat}(hu:zr1 l a)(A:a≠0)(b:Nat):zsj l a b=(decide (b=a) || zsj l (zrk l a) b):=by unfold zsj;rw[zdr h hu A];simp[Bool.decide_or]
def zqT(l:List Pl)(k:Nat):List Nat:=(zqd l k).dropLast.reverse
theorem uq(l:List Pl):zqT l 0= []:=by unfold zqT;rw[zdq];rfl
theorem zoE(l:List Pl)(k:Nat):zqd l k≠ []:=by unfold zqd zcH;split <;> simp
theorem ur{l:List Pl}(h:Tr l){k:Nat}(hu:zr1 l k)(A:k≠0):zqT l k=zqT l (zrk l k)++ [k]:=by unfold zqT;rw[zdr h hu A,List.dropLast_cons_of_ne_nil (zoE l _),List.reverse_cons]
theorem zds{l:List Pl}(h:Tr l):∀k,zr1 l k->(zqT l k).length=dep l k:=
 h.induct (by rw[uq];exact((h.zr2 h.ztp).2.2 rfl).symm) (fun k hu A ih=>by rw[ur h hu A,List.length_append,ih,(h.up hu A).2];rfl)
end Go.Proofs.YtmgekibncmnmiaaGreatDoor
namespace Go.Proofs.YtmgekibncmnmiaaGreatDoor
namespace Pi
open Go Go.RowKit Go.ChangeShapes Go.WideShapes
theorem yc{w:World}{base:Nat}{e:TypeId}{size:Nat}{v:Value}{n:Nat}{xs:List Value}{b:Nat}{o:Nat}{u:Value}(h:w.ownsRow base e size v n xs)(A:v.ownBlock≠some b):(w.setCell ⟨b,o,none⟩ u).ownsRow base e size v n xs:=by
 refine⟨h.1,?_⟩;rcases h.2 with G | ⟨g,cap,cur,B,hb,D,E⟩
 ·exact .inl G
 ·refine .inr ⟨g,cap,cur,B,hb,?_,E⟩;rw[Below.heap_setCell _ _ _ _ (by rintro rfl;exact A (by rw[B];rfl))];exact D
structure Pl where
 x:Int
 gen:Int
 used:Bool
 next:Int
def Pl.cells(s:Pl):List Value:= [.int .i64 s.x,.int .i64 s.gen,.bool s.used,.int .i64 s.next]
theorem Pl.zpw(s:Pl):s.cells.length=4:=rfl
def zp4(l:List Pl):List Value:=l.flatMap Pl.cells
def zrP(l:List Pl)(i:Nat)(c:List Value):List Value:=zp4 (l.take i)++c++zp4 (l.drop (i+1))
theorem vo(l:List Pl):(zp4 l).length=l.length*4:=by
 induction l with
 | nil=>rfl
 | cons a r ih=>
  have e:zp4 (a::r)=a.cells++zp4 r:=by simp[zp4]
  rw[e,List.length_append,Pl.zpw,ih,List.length_cons];omega
theorem yR(a b:List Pl):zp4 (a++b)=zp4 a++zp4 b:=by simp[zp4]
theorem zaq(l:List Pl)(i:Nat)(h:i<l.length):zrP l i (l[i].cells)=zp4 l:=by
 have e:l=l.take i++ [l[i]]++l.drop (i+1):=by simp
 have A:zp4 l=zp4 (l.take i++ [l[i]]++l.drop (i+1)):=congrArg zp4 e;rw[A,yR,yR];simp[zrP,zp4]
theorem zfs(l:List Pl)(i:Nat)(q:Pl)(h:i<l.length):zrP l i q.cells=zp4 (l.set i q):=by rw[List.set_eq_take_append_cons_drop,if_pos h,yR];simp[zrP,zp4]
theorem zb6(l:List Pl)(i:Nat)(c:List Value)(j:Nat)(u:Value)(h:i<l.length)(B:j<c.length):(zrP l i c).set (i*4+j) u=zrP l i (c.set j u):=by
 have A:(zp4 (l.take i)).length=i*4:=by rw[vo,List.length_take,Nat.min_eq_left (by omega)]
 unfold zrP;rw[List.append_assoc,List.set_append_right _ _ (by omega),A,Nat.add_sub_cancel_left,List.set_append_left _ _ B,<-List.append_assoc]
theorem zft(l:List Pl)(i:Nat)(c:List Value)(j:Nat)(h:i<l.length)(B:j<c.length):(zrP l i c)[i*4+j]?=c[j]?:=by
 have A:(zp4 (l.take i)).length=i*4:=by rw[vo,List.length_take,Nat.min_eq_left (by omega)]
 unfold zrP;rw[List.append_assoc,List.getElem?_append_right (by omega),A,Nat.add_sub_cancel_left,List.getElem?_append_left B]
theorem zfu(l:List Pl)(i j:Nat)(h:i<l.length)(A:j<4):(zp4 l)[i*4+j]?=(l[i].cells)[j]?:=by rw[<-zaq l i h,zft l i _ j h (by simpa[Pl.zpw]using A)]
structure zm(w:World)(base p:Nat)(v:Value)(room many free:Int)(l:List Pl):Prop where
 zp5:w.heap[p]?=some (.cells #[.int .i64 room,.int .i64 many,v,.int .i64 free] 147 (0,0))
 own:w.ownsRow base 233 4 v l.length (zp4 l)
 ne:v.ownBlock≠some p
 lo:base<=p
theorem zm.lt{w:World}{base p:Nat}{v:Value}{room many free:Int}{l:List Pl}(h:zm w base p v room many free l):p<w.heap.size:=(zd h.zp5).1
theorem zm.cell{w:World}{base p:Nat}{v:Value}{room many free:Int}{l:List Pl}(h:zm w base p v room many free l):
 w.cell? ⟨p,0,none⟩=some (.int .i64 room)/\w.cell? ⟨p,1,none⟩=some (.int .i64 many)/\w.cell? ⟨p,2,none⟩=some v/\w.cell? ⟨p,3,none⟩=some (.int .i64 free):=by
 have hb:=h.zp5;refine⟨?_,?_,?_,?_⟩ <;> simp[World.cell?,hb]
theorem zm.free{w:World}{base p:Nat}{v:Value}{room many free:Int}{l:List Pl}(h:zm w base p v room many free l)(i:Nat):w.frozen? ⟨p,i,none⟩=false:=by have hb:=h.zp5;simp[World.frozen?,hb]
theorem zm.row{w:World}{base p:Nat}{v:Value}{room many free:Int}{l:List Pl}(h:zm w base p v room many free l):
 (v=.slice none 0 0/\l= [])∨∃g cap,v=.slice (some ⟨g,0,none⟩) l.length cap/\base<=g/\g<w.heap.size/\g≠p/\l.length<=cap/\cap<=maxLen:=by
 rcases h.own.2 with⟨A,E⟩ | ⟨g,cap,cur,A,B,D,G,hm,_,_⟩
 ·exact .inl ⟨A,List.eq_nil_of_length_eq_zero E⟩
 ·refine .inr ⟨g,cap,A,B,(zd D).1,?_,G,hm⟩;have:=h.ne;rw[A]at this;simpa[Value.ownBlock]using this
theorem zm.place{w:World}{base p g cap:Nat}{room many free:Int}{l:List Pl}(h:zm w base p (.slice (some ⟨g,0,none⟩) l.length cap) room many free l)(i j:Nat)(B:i<l.length)(A:j<4):
 w.cell? ⟨g,i*4+j,none⟩=(l[i].cells)[j]?:=by
 rw[h.own.cellAt (i*4+j) (by omega),zfu l i j B A]
theorem zm.zpi{w:World}{base p g cap:Nat}{room many free:Int}{l:List Pl}(h:zm w base p (.slice (some ⟨g,0,none⟩) l.length cap) room many free l)(j:Nat):w.frozen? ⟨g,j,none⟩=false:=h.own.frozenAt j
theorem zm.alloc{w:World}{base p:Nat}{v:Value}{room many free:Int}{l:List Pl}(h:zm w base p v room many free l)(o:Obj):zm (w.alloc o) base p v room many free l:=
 ⟨by rw[Below.heap_alloc w o p h.lt];exact h.zp5,h.own.alloc o,h.ne,h.lo⟩
theorem zm.drewN{w:World}{base p:Nat}{v:Value}{room many free:Int}{l:List Pl}(h:zm w base p v room many free l)(n:Nat):zm (w.drewN n) base p v room many free l:=⟨h.zp5,h.own,h.ne,h.lo⟩
theorem zm.kept{w w':World}{base p:Nat}{v:Value}{room many free:Int}{l:List Pl}(h:zm w base p v room many free l)(hp:w'.heap[p]?=w.heap[p]?)(B:∀g,v.ownBlock=some g->w'.heap[g]?=w.heap[g]?):zm w' base p v room many free l:=by
 refine⟨by rw[hp];exact h.zp5,⟨h.own.1,?_⟩,h.ne,h.lo⟩;rcases h.own.2 with G | ⟨g,cap,cur,A,hb,D,E⟩
 ·exact .inl G
 ·exact .inr ⟨g,cap,cur,A,hb,by rw[B g (by rw[A];rfl)];exact D,E⟩
theorem zm.ztn{w:World}{base p g cap n:Nat}{room many free:Int}{l:List Pl}(h:zm w base p (.slice (some ⟨g,0,none⟩) n cap) room many free l):g<w.heap.size:=by
 rcases h.row with⟨A,_⟩ | ⟨b',h0,A,_,hb,_⟩
 ·cases A
 ·cases A;exact hb
theorem zm.len{w:World}{base p g cap n:Nat}{room many free:Int}{l:List Pl}(h:zm w base p (.slice (some ⟨g,0,none⟩) n cap) room many free l):n=l.length:=by
 rcases h.row with⟨A,_⟩ | ⟨b',h0,A,_⟩
 ·cases A
 ·cases A;rfl
theorem zm.store{w:World}{base p g cap n:Nat}{room many free:Int}{l:List Pl}(h:zm w base p (.slice (some ⟨g,0,none⟩) n cap) room many free l)(k j:Nat)(u:Value)(q q':Pl)(E:l[k]?=some q)(H:j<4)(G:q.cells.set j u=q'.cells):
 zm (w.setCell ⟨g,k*4+j,none⟩ u) base p (.slice (some ⟨g,0,none⟩) n cap) room many free (l.set k q'):=by
 obtain rfl:=h.len;obtain⟨A,rfl⟩:=ze E;have B:g≠p:=by have:=h.ne;simpa[Value.ownBlock]using this
 refine⟨?_,?_,h.ne,h.lo⟩
 ·rw[Below.heap_setCell _ _ _ _ (by exact fun e=>B e.symm)];exact h.zp5
 ·have D:=(h.own.stored (k*4+j) u).1;have e:(zp4 l).set (k*4+j) u=zp4 (l.set k q'):=by have:=zb6 l k (l[k].cells) j u A (by simpa[Pl.zpw]using H);rw[zaq l k A]at this;rw[this,G,zfs l k q' A]
  rw[e]at D;rw[List.length_set];exact D
theorem zm.ztq{w:World}{base p g cap n:Nat}{room many free:Int}{l:List Pl}(h:zm w base p (.slice (some ⟨g,0,none⟩) n cap) room many free l)(k:Nat)(q q':Pl)(B:l[k]?=some q):
 zm ((((w.setCell ⟨g,k*4,none⟩ (.int .i64 q'.x)).setCell ⟨g,k*4+1,none⟩ (.int .i64 q'.gen)).setCell ⟨g,k*4+2,none⟩ (.bool q'.used)).setCell ⟨g,k*4+3,none⟩ (.int .i64 q'.next)) base p (.slice (some ⟨g,0,none⟩) n cap) room many free (l.set k q'):=by
 have A:=(ze B).1;have G:=h.store k 0 (.int .i64 q'.x) q ⟨q'.x,q.gen,q.used,q.next⟩ B (by omega) rfl;have E:=G.store k 1 (.int .i64 q'.gen) ⟨q'.x,q.gen,q.used,q.next⟩ ⟨q'.x,q'.gen,q.used,q.next⟩ (by rw[List.getElem?_set_self A]) (by omega) rfl;have H:=E.store k 2 (.bool q'.used) ⟨q'.x,q'.gen,q.used,q.next⟩ ⟨q'.x,q'.gen,q'.used,q.next⟩ (by rw[List.getElem?_set_self (by simpa using A)]) (by omega) rfl;have D:=H.store k 3 (.int .i64 q'.next) ⟨q'.x,q'.gen,q'.used,q.next⟩ q' (by rw[List.getElem?_set_self (by simpa using A)]) (by omega) rfl;simp only[List.set_set,Nat.add_zero]at D;exact D
theorem zm.zrI{w:World}{base p:Nat}{v:Value}{room many free:Int}{l:List Pl}(h:zm w base p v room many free l)(m:Int):zm (w.setCell ⟨p,1,none⟩ (.int .i64 m)) base p v room m free l:=by refine⟨by rw[zi h.zp5];rfl,?_,h.ne,h.lo⟩;exact(yc h.own h.ne)
theorem zm.zrt{w:World}{base p:Nat}{v:Value}{room many free:Int}{l:List Pl}(h:zm w base p v room many free l)(m:Int):zm (w.setCell ⟨p,3,none⟩ (.int .i64 m)) base p v room many m l:=
 ⟨by rw[zi h.zp5];rfl,yc h.own h.ne,h.ne,h.lo⟩
theorem zm.zpP{w:World}{base p:Nat}{v:Value}{room many free:Int}{l:List Pl}(h:zm w base p v room many free l){c o:Nat}{u:Value}(B:c≠p)(A:v.ownBlock≠some c):zm (w.setCell ⟨c,o,none⟩ u) base p v room many free l:=
 ⟨by rw[Below.heap_setCell _ _ _ _ (by exact fun e=>B e.symm)];exact h.zp5,yc h.own A,h.ne,h.lo⟩
theorem zm.zsk{w:World}{base p g cap n:Nat}{room many free:Int}{l:List Pl}(h:zm w base p (.slice (some ⟨g,0,none⟩) n cap) room many free l)(k:Nat)(q q':Pl)(A:l[k]?=some q)(E:q'.gen=q.gen):
 zm (((w.setCell ⟨g,k*4,none⟩ (.int .i64 q'.x)).setCell ⟨g,k*4+2,none⟩ (.bool q'.used)).setCell ⟨g,k*4+3,none⟩ (.int .i64 q'.next)) base p (.slice (some ⟨g,0,none⟩) n cap) room many free (l.set k q'):=by
 have D:=(ze A).1;have G:=h.store k 0 (.int .i64 q'.x) q ⟨q'.x,q.gen,q.used,q.next⟩ A (by omega) rfl;have H:=G.store k 2 (.bool q'.used) ⟨q'.x,q.gen,q.used,q.next⟩ ⟨q'.x,q.gen,q'.used,q.next⟩ (by rw[List.getElem?_set_self (by simpa using D)]) (by omega) rfl;have B:=H.store k 3 (.int .i64 q'.next) ⟨q'.x,q.gen,q'.used,q.next⟩ q' (by rw[List.getElem?_set_self (by simpa using D)]) (by omega) (by rw[Pl.cells,Pl.cells,E];rfl);simp only[List.set_set,Nat.add_zero]at B;exact B
theorem zm.grow{w0 w1:World}{base p:Nat}{v v':Value}{room many free:Int}{l:List Pl}(h:zm w0 base p v room many free l)(q:Pl)(D:w0.grownBy w1 v.ownBlock)(B:w1.ownsRow base 233 4 v' (l.length+1) (zp4 l++q.cells))(A:v'.ownBlock≠some p):
 zm (w1.setCell ⟨p,2,none⟩ v') base p v' room many free (l++ [q]):=by
 have hb:w1.heap[p]?=some (.cells #[.int .i64 room,.int .i64 many,v,.int .i64 free] 147 (0,0)):=by rw[D.block p h.lt (fun e=>h.ne e.symm)];exact h.zp5
 refine⟨by rw[zi hb];rfl,?_,A,h.lo⟩;have e:zp4 (l++ [q])=zp4 l++q.cells:=by rw[yR];simp[zp4]
 rw[e,List.length_append];exact yc B A
theorem zdm{w0 w1:World}{base p:Nat}{v v':Value}{n:Nat}{xs:List Value}{e:TypeId}{size:Nat}(A:v.ownBlock≠some p)(E:w0.grownBy w1 v.ownBlock)(G:w1.ownsRow base e size v' n xs){o:Obj}(hb:w0.heap[p]?=some o)(D:∀cs z,o≠.cells cs e z):v'.ownBlock≠some p:=by
 rcases G.2 with⟨rfl,_⟩ | ⟨g,cap,cur,rfl,_,B,_⟩
 ·simp[Value.ownBlock]
 ·intro hp;simp[Value.ownBlock]at hp;subst hp;have:=E.block g (zd hb).1 (fun e=>A e.symm);rw[hb]at this;rw[this]at B;exact D cur (0,0) (by simpa using B)
end Pi
end Go.Proofs.YtmgekibncmnmiaaGreatDoor
namespace Go.Proofs.YtmgekibncmnmiaaGreatDoor
namespace Pi
open Go Go.RowKit Go.ChangeShapes Go.WideShapes
theorem zig(i g:Int)(w:World)(p:Nat)(hi:i<0):
 Calls prog 144 #[.pointer (some ⟨p,0,none⟩),.agg #[.int .i64 i,.int .i64 g]] w fun e w'=>e=.returned (.pointer none)/\∃n,(w.alloc (.cells #[.int .i64 i,.int .i64 g] 78)).drewN n=w':=by
 go_enter func144,ntmps144;go_wp2;go_quiet (fail);go_wp2;go_ret;exact⟨rfl,_,rfl⟩
theorem zdn(i g:Int)(w:World)(p:Nat)(a:Option Addr)(len cap:Nat)(hp:p<w.heap.size)(hc:w.cell? ⟨p,2,none⟩=some (.slice a len cap))(hi:(len:Int)<=i)(h0:0<=i):
 Calls prog 144 #[.pointer (some ⟨p,0,none⟩),.agg #[.int .i64 i,.int .i64 g]] w fun e w'=>e=.returned (.pointer none)/\∃n,(w.alloc (.cells #[.int .i64 i,.int .i64 g] 78)).drewN n=w':=by
 go_enter func144,ntmps144;go_wp2;go_quiet (fail);go_wp2;go_ret;exact⟨rfl,_,rfl⟩
theorem zgC(k:Nat)(g:Int)(w:World)(p b:Nat)(len cap:Nat)(q:Pl)(hp:p<w.heap.size)(hb:b<w.heap.size)(hc:w.cell? ⟨p,2,none⟩=some (.slice (some ⟨b,0,none⟩) len cap))(hk:k<len)(hlen:len<=4096)
 (h1:w.cell? ⟨b,k*4+1,none⟩=some (.int .i64 q.gen)) (B:w.cell? ⟨b,k*4+2,none⟩=some (.bool q.used)):
 Calls prog 144 #[.pointer (some ⟨p,0,none⟩),.agg #[.int .i64 k,.int .i64 g]] w fun e w'=>e=.returned (if q.used=true/\q.gen=g then .pointer (some ⟨b,k*4,none⟩)else .pointer none)/\∃n,(w.alloc (.cells #[.int .i64 k,.int .i64 g] 78)).drewN n=w':=by
 cases hu:q.used
 ·rw[if_neg (by simp)];rw[hu]at B;clear hu;go_enter func144,ntmps144;go_wp2;go_quiet (fail);go_wp2;go_quiet (fail);go_wp2;go_quiet (fail);go_wp2;go_ret;refine⟨rfl,?_⟩;simp only[World.drewN_drewN];exact⟨_,rfl⟩
 ·by_cases A:q.gen=g
  ·rw[if_pos ⟨rfl,A⟩];have D:(q.gen == g)=true:=beq_iff_eq.2 A;rw[hu]at B;clear hu A;go_enter func144,ntmps144;go_wp2;go_quiet (fail);go_wp2;go_quiet (fail);go_wp2;go_quiet (fail);go_wp2;go_ret;refine⟨rfl,?_⟩;simp only[World.drewN_drewN];exact⟨_,rfl⟩
  ·rw[if_neg (by simp[A])];have D:(q.gen == g)=false:=beq_eq_false_iff_ne.2 A;rw[hu]at B;clear hu A;go_enter func144,ntmps144;go_wp2;go_quiet (fail);go_wp2;go_quiet (fail);go_wp2;go_quiet (fail);go_wp2;go_ret;refine⟨rfl,?_⟩;simp only[World.drewN_drewN];exact⟨_,rfl⟩
end Pi
end Go.Proofs.YtmgekibncmnmiaaGreatDoor
namespace Go.Proofs.YtmgekibncmnmiaaGreatDoor
namespace Pi
open Go Go.RowKit Go.ChangeShapes Go.WideShapes
def zar(l:List Pl)(i g:Int)(k:Nat)(q:Pl):Prop:=i=(k:Int)/\l[k]?=some q/\q.used=true/\q.gen=g
def qd(l:List Pl)(i g:Int):Prop:=∀k q,¬zar l i g k q
def zru(w:World)(z:Nat):Prop:=∃cs fr,w.heap[z]?=some (.cells cs 233 fr)
def zpB(w:World)(p z:Nat):Prop:=∃v,w.cell? ⟨p,2,none⟩=some v/\v.ownBlock=some z
def PF(p:Nat)(w:World)(z:Nat):Prop:=z=p∨(zru w z/\zpB w p z)
structure zpa(base p:Nat)(w w':World):Prop where
 zpW:zo8 (PF p w) w w'
 below:Below base w w'
 row:p<w.heap.size->∀z,z<w.heap.size->zpB w' p z->zpB w p z
theorem zpB.same{w w':World}{p z:Nat}(h:zpB w' p z)(hp:w'.heap[p]?=w.heap[p]?):zpB w p z:=by obtain⟨v,B,A⟩:=h;refine⟨v,?_,A⟩;rw[<-B];simp[World.cell?,hp]
theorem zpa.zo7{base p:Nat}{w w':World}(h:Below w.heap.size w w')(hb:base<=w.heap.size):zpa base p w w':=⟨zo8.zo7 h,zcY h hb,fun hp z _ A=>A.same (h.block p hp)⟩
theorem zm.rowOf{w:World}{base p g cap n:Nat}{room many free:Int}{l:List Pl}(h:zm w base p (.slice (some ⟨g,0,none⟩) n cap) room many free l):zpB w p g:=⟨_,h.cell.2.2.1,rfl⟩
theorem zm.rowIs{w:World}{base p:Nat}{v:Value}{room many free:Int}{l:List Pl}(h:zm w base p v room many free l){z:Nat}(D:zpB w p z):v.ownBlock=some z:=by obtain⟨u,A,B⟩:=D;rw[h.cell.2.2.1]at A;cases A;exact B
theorem zm.zsr{w w':World}{base p g cap n n' E:Nat}{room many free D B A:Int}{l I:List Pl}(h:zm w base p (.slice (some ⟨g,0,none⟩) n cap) room many free l)(G:zm w' base p (.slice (some ⟨g,0,none⟩) n' E) D B A I):∀z,zpB w' p z->zpB w p z:=fun z H=>by have:=G.rowIs H;simp[Value.ownBlock]at this;exact this▸h.rowOf
theorem zm.zru{w:World}{base p g cap n:Nat}{room many free:Int}{l:List Pl}(h:zm w base p (.slice (some ⟨g,0,none⟩) n cap) room many free l):zru w g:=by
 rcases h.own.2 with⟨A,_⟩ | ⟨g',h0,cur,A,_,B,_⟩
 ·cases A
 ·cases A;exact⟨_,_,B⟩
theorem zm.zqb{w:World}{base p g cap n:Nat}{room many free:Int}{l:List Pl}(h:zm w base p (.slice (some ⟨g,0,none⟩) n cap) room many free l):base<=g:=by
 rcases h.row with⟨A,_⟩ | ⟨b',h0,A,hb,_⟩
 ·cases A
 ·cases A;exact hb
theorem zm.step{w w':World}{base p g cap n:Nat}{room many free:Int}{l:List Pl}(h:zm w base p (.slice (some ⟨g,0,none⟩) n cap) room many free l)(hb:base<=w.heap.size)(A:zo8 (fun z=>z=g∨z=p) w w')(E:∀z,zpB w' p z->zpB w p z):zpa base p w w':=
 ⟨⟨A.os,A.tape,A.output,A.size,fun k B D=>A.block k B (fun e=>D (by rcases e with rfl | rfl;exact .inr ⟨h.zru,h.rowOf⟩;exact .inl rfl))⟩,
  A.below hb (fun k B=>by rcases B with rfl | rfl;exact h.zqb;exact h.lo),fun _ z _=>E z⟩
theorem zih(i g:Int)(k:Nat)(q:Pl)(w:World)(base p b cap:Nat)(room many free:Int)(l:List Pl)(h:zm w base p (.slice (some ⟨b,0,none⟩) l.length cap) room many free l)(I:l.length<=4096)(J:zar l i g k q):
 Calls prog 144 #[.pointer (some ⟨p,0,none⟩),.agg #[.int .i64 i,.int .i64 g]] w fun e w'=>e=.returned (.pointer (some ⟨b,k*4,none⟩))/\∃n,(w.alloc (.cells #[.int .i64 i,.int .i64 g] 78)).drewN n=w':=by
 obtain⟨rfl,H,hu,G⟩:=J;obtain⟨A,B⟩:=ze H;have hb:b<w.heap.size:=h.ztn;have E:=h.place k 1 A (by omega);have D:=h.place k 2 A (by omega);rw[B]at E D;have c:=zgC k g w p b l.length cap q h.lt hb h.cell.2.2.1 A I E D;rwa[if_pos ⟨hu,G⟩]at c
theorem zfv(i g:Int)(w:World)(base p:Nat)(v:Value)(room many free:Int)(l:List Pl)(h:zm w base p v room many free l)(H:l.length<=4096)(I:qd l i g):
 Calls prog 144 #[.pointer (some ⟨p,0,none⟩),.agg #[.int .i64 i,.int .i64 g]] w fun e w'=>e=.returned (.pointer none)/\∃n,(w.alloc (.cells #[.int .i64 i,.int .i64 g] 78)).drewN n=w':=by
 by_cases B:i<0
 ·exact zig i g w p B
 ·by_cases D:(l.length:Int)<=i
  ·rcases h.row with⟨rfl,rfl⟩ | ⟨b,cap,rfl,_⟩
   ·exact zdn i g w p _ 0 0 h.lt h.cell.2.2.1 (by simpa using D) (by omega)
   ·exact zdn i g w p _ _ cap h.lt h.cell.2.2.1 D (by omega)
  ·obtain⟨k,rfl⟩:=Int.eq_ofNat_of_zero_le (Int.not_lt.1 B);have A:k<l.length:=by omega
   rcases h.row with⟨_,rfl⟩ | ⟨b,cap,rfl,_,hb,_⟩
   ·simp at A
   ·have J:=h.place k 1 A (by omega);have G:=h.place k 2 A (by omega);have c:=zgC k g w p b l.length cap l[k] h.lt hb h.cell.2.2.1 A H J G;rwa[if_neg (fun E=>I k l[k] ⟨rfl,List.getElem?_eq_getElem A,E.1,E.2⟩)]at c
end Pi
end Go.Proofs.YtmgekibncmnmiaaGreatDoor
namespace Go.Proofs.YtmgekibncmnmiaaGreatDoor
namespace Pi
open Go Go.RowKit Go.ChangeShapes Go.WideShapes
theorem zky(i g:Int)(w:World)(base p:Nat)(v:Value)(room many free:Int)(l:List Pl)(h:zm w base p v room many free l)(D:l.length<=4096)(A:qd l i g):
 Calls prog 94 #[.pointer (some ⟨p,0,none⟩),.agg #[.int .i64 i,.int .i64 g]] w fun e w'=>e=.returned (.tuple #[.int .i64 0,.int .i64 2])/\Below w.heap.size w w':=by
 have B:=zc (fun o=>zfv i g (w.alloc o) base p v room many free l (h.alloc o) D A);clear h A;go_enter func94,ntmps94;go_wp2_with (go_at_call 144;refine(B.out _).mono ?_;rintro e w1 ⟨rfl,n,rfl⟩);go_ret2;exact⟨rfl,zp (((Below.refl _ _).alloc (zg _) _).alloc (by simp) _) _⟩
theorem zmx(i g:Int)(k:Nat)(q:Pl)(w:World)(base p b cap:Nat)(room many free:Int)(l:List Pl)(h:zm w base p (.slice (some ⟨b,0,none⟩) l.length cap) room many free l)(O:l.length<=4096)(D:zar l i g k q)
 (hg:0<=q.gen/\q.gen<=1000000) (hm: -1000000<=many/\many<=4096):
 Calls prog 94 #[.pointer (some ⟨p,0,none⟩),.agg #[.int .i64 i,.int .i64 g]] w fun e w'=>e=.returned (.tuple #[.int .i64 q.x,.int .i64 0])/\zm w' base p (.slice (some ⟨b,0,none⟩) l.length cap) room (many-1) k (l.set k ⟨0,q.gen+1,false,free⟩)/\zo8 (fun z=>z=b∨z=p) w w':=by
 have N:=zc (fun o=>zih i g k q (w.alloc o) base p b cap room many free l (h.alloc o) O D);have hb:=h.ztn;have hp:=h.lt;have h4:b≠p:=by have:=h.ne;simpa[Value.ownBlock]using this
 have H:=D.2.1;obtain rfl:=D.1;obtain⟨B,A⟩:=ze H;have G:=h.place k 0 B (by omega);have I:=h.place k 1 B (by omega);have E:=h.place k 2 B (by omega);have J:=h.place k 3 B (by omega);rw[A]at G I E J;have hi:w.cell? ⟨b,k*4,none⟩=some (.int .i64 q.x):=G;have ha:w.cell? ⟨b,k*4+1,none⟩=some (.int .i64 q.gen):=I;have h9:w.cell? ⟨b,k*4+2,none⟩=some (.bool q.used):=E;have hc:w.cell? ⟨b,k*4+3,none⟩=some (.int .i64 q.next):=J;have h7:=h.zpi (k*4);have hh:=h.zpi (k*4+1);have hf:=h.zpi (k*4+2);have h5:=h.zpi (k*4+3);obtain⟨c0,c1,c2,c3⟩:=h.cell;have h8:=h.free 1;have h6:=h.free 3;have M:=zc H;have R:=zc h
 clear h D G I E J A H;go_enter func94,ntmps94;go_wp2_with (go_at_call 144;refine(N.out _).mono ?_;rintro e w1 ⟨rfl,n,rfl⟩);go_region;go_wp2;go_ret2;exact⟨rfl,(((((R.out.alloc _).alloc _).drewN (n+1)).ztq k q ⟨0,q.gen+1,false,free⟩ M.out).zrt k).zrI (many-1),
  zo8.setCell (F:=fun z=>z=b∨z=p) (zo8.setCell (F:=fun z=>z=b∨z=p) (zo8.setCell (F:=fun z=>z=b∨z=p) (zo8.setCell (F:=fun z=>z=b∨z=p) (zo8.setCell (F:=fun z=>z=b∨z=p) (zo8.setCell (F:=fun z=>z=b∨z=p) ((((zo8.refl _ _).alloc _).alloc _).drewN (n+1)) (.inl (.inl rfl)) _) (.inl (.inl rfl)) _) (.inl (.inl rfl)) _) (.inl (.inl rfl)) _) (.inl (.inr rfl)) _) (.inl (.inr rfl)) _⟩
end Pi
end Go.Proofs.YtmgekibncmnmiaaGreatDoor
namespace Go.Proofs.YtmgekibncmnmiaaGreatDoor
namespace Pi
open Go Go.RowKit Go.ChangeShapes Go.WideShapes
theorem zq8(room:Int)(w:World)(h:1<=room/\room<=4096):
 Calls prog 35 #[.int .i64 room] w fun e w'=>e=.returned (.tuple #[.pointer (some ⟨w.heap.size,0,none⟩),.int .i64 0])/\
  w.alloc (.cells #[.int .i64 room,.int .i64 0,.slice none 0 0,.int .i64 (-1)] 147)=w':=by
 go_enter func35,ntmps35;go_wp2;go_ret2;exact⟨rfl,rfl⟩
theorem zdo(x:Int)(w:World)(base p:Nat)(v:Value)(room many free:Int)(l:List Pl)(h:zm w base p v room many free l)(hm:many=room):
 Calls prog 87 #[.pointer (some ⟨p,0,none⟩),.int .i64 x] w fun e w'=>e=.returned (.tuple #[.agg #[.int .i64 0,.int .i64 0],.int .i64 3])/\Below w.heap.size w w':=by
 subst hm;have h1:=h.lt;obtain⟨c0,c1,c2,c3⟩:=h.cell;clear h;go_enter func87,ntmps87;go_wp2;go_quiet (fail);go_wp2;refine bodyPost_ret (v:=.tuple #[.agg #[.int .i64 0,.int .i64 0],.int .i64 3]) (by simp[results,results87,go_sem]) rfl ⟨rfl,?_⟩;exact((zp ((Below.refl _ _).alloc (zg _) _) _).setCell (zg _) _).setCell (zg _) _
theorem zb7(x:Int)(k:Nat)(q:Pl)(w:World)(base p b cap:Nat)(room many:Int)(l:List Pl)(h:zm w base p (.slice (some ⟨b,0,none⟩) l.length cap) room many k l)(hl:l.length<=4096)(G:l[k]?=some q)(hm: -1000000<=many/\many<=4096)(hr:many<room):
 Calls prog 87 #[.pointer (some ⟨p,0,none⟩),.int .i64 x] w fun e w'=>e=.returned (.tuple #[.agg #[.int .i64 k,.int .i64 q.gen],.int .i64 0])/\
  zm w' base p (.slice (some ⟨b,0,none⟩) l.length cap) room (many+1) q.next (l.set k ⟨x,q.gen,true,-1⟩)/\zo8 (fun z=>z=b∨z=p) w w':=by
 have hb:=h.ztn;have hp:=h.lt;have h5:b≠p:=by have:=h.ne;simpa[Value.ownBlock]using this
 obtain⟨B,A⟩:=ze G;have E:=h.place k 0 B (by omega);have H:=h.place k 1 B (by omega);have D:=h.place k 2 B (by omega);have I:=h.place k 3 B (by omega);rw[A]at E H D I;have hj:w.cell? ⟨b,k*4,none⟩=some (.int .i64 q.x):=E;have hc:w.cell? ⟨b,k*4+1,none⟩=some (.int .i64 q.gen):=H;have ha:w.cell? ⟨b,k*4+2,none⟩=some (.bool q.used):=D;have hf:w.cell? ⟨b,k*4+3,none⟩=some (.int .i64 q.next):=I;have h8:=h.zpi (k*4);have hi:=h.zpi (k*4+1);have hg:=h.zpi (k*4+2);have h6:=h.zpi (k*4+3);obtain⟨c0,c1,c2,c3⟩:=h.cell;have h9:=h.free 1;have h7:=h.free 3;have hh:(many == room)=false:=beq_eq_false_iff_ne.2 (by omega)
 have h4:((k:Int) == -1)=false:=beq_eq_false_iff_ne.2 (by omega);have J:=zc G;have M:=zc h;clear h E H D I A G;go_enter func87,ntmps87;go_wp2;go_quiet (fail);go_wp2;refine bodyPost_ret (v:=.tuple #[.agg #[.int .i64 k,.int .i64 q.gen],.int .i64 0]) (by simp[results,results87,go_sem]) rfl ⟨rfl,?_⟩;exact⟨((((((M.out.alloc _).drewN _).zrI (many+1)).zrt q.next).zsk k q ⟨x,q.gen,true,-1⟩ J.out rfl).zpP (by omega) (by simp[Value.ownBlock];omega)).zpP (by omega) (by simp[Value.ownBlock];omega),
  zo8.setCell (F:=fun z=>z=b∨z=p) (zo8.setCell (F:=fun z=>z=b∨z=p) (zo8.setCell (F:=fun z=>z=b∨z=p) (zo8.setCell (F:=fun z=>z=b∨z=p) (zo8.setCell (F:=fun z=>z=b∨z=p) (zo8.setCell (F:=fun z=>z=b∨z=p) (zo8.setCell (F:=fun z=>z=b∨z=p) (((zo8.refl _ _).alloc _).drewN _) (.inl (.inr rfl)) _) (.inl (.inr rfl)) _) (.inl (.inl rfl)) _) (.inl (.inl rfl)) _) (.inl (.inl rfl)) _) (.inr (zg _)) _) (.inr (zg _)) _⟩
end Pi
end Go.Proofs.YtmgekibncmnmiaaGreatDoor
