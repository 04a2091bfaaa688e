import Derived.Test.YtgndjjdeopfdkaaGreatProg
import Derived.Test.YtgndjjdeopfdkaaGreatKLowerMeans3
/- texts GA GN of the proof of LowerMeansSaid -/
set_option maxHeartbeats 16000000
set_option maxRecDepth 20000
set_option linter.unusedVariables false
set_option linter.unusedSimpArgs false
namespace Go.Proofs.YtgndjjdeopfdkaaGreat
open Go.SX
def tab:List (Nat×TI):=
 [(2,⟨1,false,6,0,8,.i64,[],true,[.int .i64 0]⟩),
  (3,⟨1,false,6,0,8,.i64,[],true,[.int .i64 0]⟩),
  (4,⟨1,false,5,0,1,.i64,[],true,[.bool false]⟩),
  (5,⟨1,false,6,0,1,.u8,[],true,[.int .u8 0]⟩),
  (9,⟨1,false,4,0,16,.i64,[],true,[.string .empty]⟩),
  (20,⟨1,false,9,0,16,.i64,[],true,[.nilIface]⟩),
  (22,⟨1,false,1,41,24,.i64,[],true,[.slice none 0 0]⟩),
  (24,⟨2,true,3,0,32,.i64,[(0,1,0),(1,1,0)],true,[.slice none 0 0,.int .i64 0]⟩),
  (26,⟨5,true,3,0,24,.i64,[(0,1,0),(1,1,0),(2,1,0),(3,1,0),(4,1,0)],true,[.int .i64 0,.bool false,.bool false,.bool false,.int .i64 0]⟩),
  (29,⟨1,false,1,92,24,.i64,[],true,[.slice none 0 0]⟩),
  (30,⟨1,false,1,32,24,.i64,[],true,[.slice none 0 0]⟩),
  (31,⟨1,false,1,43,24,.i64,[],true,[.slice none 0 0]⟩),
  (32,⟨1,false,1,3,24,.i64,[],true,[.slice none 0 0]⟩),
  (34,⟨6,true,3,0,112,.i64,[(0,1,0),(1,1,0),(2,1,0),(3,1,0),(4,1,0),(5,1,0)],true,[.int .i64 0,.slice none 0 0,.slice none 0 0,.slice none 0 0,.int .i64 0,.slice none 0 0]⟩),
  (35,⟨1,false,6,0,8,.i64,[],true,[.int .i64 0]⟩),
  (41,⟨9,true,3,0,120,.i64,[(0,1,0),(1,1,0),(2,1,0),(3,1,0),(4,1,0),(5,1,0),(6,1,0),(7,1,0),(8,1,0)],true,[.int .i64 0,.int .i64 0,.int .i64 0,.slice none 0 0,.int .i64 0,.int .i64 0,.int .i64 0,.slice none 0 0,.slice none 0 0]⟩),
  (43,⟨5,true,3,0,40,.i64,[(0,1,0),(1,1,0),(2,1,0),(3,1,0),(4,1,0)],true,[.int .i64 0,.int .i64 0,.int .i64 0,.int .i64 0,.int .i64 0]⟩),
  (45,⟨1,false,1,5,24,.i64,[],true,[.slice none 0 0]⟩),
  (47,⟨1,false,7,49,8,.i64,[],true,[.pointer none]⟩),
  (49,⟨2,true,3,0,32,.i64,[(0,1,0),(1,1,0)],true,[.slice none 0 0,.int .i64 0]⟩),
  (54,⟨1,false,1,58,24,.i64,[],true,[.slice none 0 0]⟩),
  (58,⟨2,true,3,0,16,.i64,[(0,1,0),(1,1,0)],true,[.int .i64 0,.int .i64 0]⟩),
  (59,⟨1,false,6,0,8,.u64,[],true,[.int .u64 0]⟩),
  (69,⟨1,false,7,71,8,.i64,[],true,[.pointer none]⟩),
  (71,⟨10,true,3,0,192,.i64,[(0,6,1),(6,1,0),(7,1,0),(8,1,0),(9,1,0)],true,[.int .i64 0,.slice none 0 0,.slice none 0 0,.slice none 0 0,.int .i64 0,.slice none 0 0,.bool false,.slice none 0 0,.slice none 0 0,.slice none 0 0]⟩),
  (74,⟨1,false,0,0,8,.i64,[],true,[.nilFunc]⟩),
  (77,⟨1,false,7,79,8,.i64,[],true,[.pointer none]⟩),
  (79,⟨7,true,3,0,120,.i64,[(0,6,1),(6,1,0)],true,[.int .i64 0,.slice none 0 0,.slice none 0 0,.slice none 0 0,.int .i64 0,.slice none 0 0,.bool false]⟩),
  (84,⟨1,false,0,0,8,.i64,[],true,[.nilFunc]⟩),
  (89,⟨1,false,1,59,24,.i64,[],true,[.slice none 0 0]⟩),
  (92,⟨3,true,3,0,40,.i64,[(0,1,0),(1,1,0),(2,1,0)],true,[.int .i64 0,.int .i64 0,.slice none 0 0]⟩),
  (93,⟨1,false,7,96,8,.i64,[],true,[.pointer none]⟩),
  (94,⟨1,false,1,89,24,.i64,[],true,[.slice none 0 0]⟩),
  (96,⟨9,true,3,0,168,.i64,[(0,6,1),(6,1,0),(7,1,0),(8,1,0)],true,[.int .i64 0,.slice none 0 0,.slice none 0 0,.slice none 0 0,.int .i64 0,.slice none 0 0,.int .u64 0,.slice none 0 0,.slice none 0 0]⟩),
  (97,⟨1,false,0,0,8,.i64,[],true,[.nilFunc]⟩),
  (101,⟨1,false,0,0,8,.i64,[],true,[.nilFunc]⟩),
  (102,⟨1,false,0,0,8,.i64,[],true,[.nilFunc]⟩),
  (104,⟨12,true,3,0,160,.i64,[(0,9,1),(9,1,0),(10,1,0),(11,1,0)],true,[.int .i64 0,.int .i64 0,.int .i64 0,.slice none 0 0,.int .i64 0,.int .i64 0,.int .i64 0,.slice none 0 0,.slice none 0 0,.slice none 0 0,.nilFunc,.int .i64 0]⟩),
  (106,⟨1,false,7,108,8,.i64,[],true,[.pointer none]⟩),
  (108,⟨3,true,3,0,56,.i64,[(0,2,1),(2,1,0)],true,[.slice none 0 0,.int .i64 0,.slice none 0 0]⟩),
  (109,⟨1,false,0,0,8,.i64,[],true,[.nilFunc]⟩),
  (110,⟨1,false,1,109,24,.i64,[],true,[.slice none 0 0]⟩),
  (112,⟨1,false,8,0,8,.i64,[],true,[.map none]⟩),
  (115,⟨11,true,3,0,152,.i64,[(0,9,1),(9,1,0),(10,1,0)],true,[.int .i64 0,.int .i64 0,.int .i64 0,.slice none 0 0,.int .i64 0,.int .i64 0,.int .i64 0,.slice none 0 0,.slice none 0 0,.int .i64 0,.slice none 0 0]⟩),
  (123,⟨1,false,0,0,8,.i64,[],true,[.nilFunc]⟩),
  (127,⟨1,false,7,129,8,.i64,[],true,[.pointer none]⟩),
  (129,⟨3,true,3,0,24,.i64,[(0,1,0),(1,1,0),(2,1,0)],true,[.pointer none,.int .i64 0,.bool false]⟩),
  (137,⟨1,false,0,0,8,.i64,[],true,[.nilFunc]⟩),
  (146,⟨1,false,0,0,8,.i64,[],true,[.nilFunc]⟩),
  (148,⟨1,false,6,0,8,.u64,[],true,[.int .u64 0]⟩),
  (149,⟨1,false,0,0,8,.i64,[],true,[.nilFunc]⟩),
  (150,⟨1,false,1,152,24,.i64,[],true,[.slice none 0 0]⟩),
  (152,⟨2,true,3,0,16,.i64,[(0,1,0),(1,1,0)],true,[.int .i64 0,.int .i64 0]⟩),
  (154,⟨1,false,0,0,8,.i64,[],true,[.nilFunc]⟩),
  (156,⟨1,false,0,0,8,.i64,[],true,[.nilFunc]⟩),
  (158,⟨10,true,3,0,144,.i64,[(0,9,1),(9,1,0)],true,[.int .i64 0,.int .i64 0,.int .i64 0,.slice none 0 0,.int .i64 0,.int .i64 0,.int .i64 0,.slice none 0 0,.slice none 0 0,.slice none 0 0]⟩),
  (159,⟨1,false,0,0,8,.i64,[],true,[.nilFunc]⟩),
  (161,⟨1,false,8,0,8,.i64,[],true,[.map none]⟩),
  (165,⟨1,false,1,4,24,.i64,[],true,[.slice none 0 0]⟩),
  (175,⟨1,false,0,0,8,.i64,[],true,[.nilFunc]⟩),
  (179,⟨3,true,3,0,24,.i64,[(0,1,0),(1,1,0),(2,1,0)],true,[.int .i64 0,.int .i64 0,.int .i64 0]⟩),
  (182,⟨1,false,0,0,8,.i64,[],true,[.nilFunc]⟩),
  (183,⟨1,false,0,0,8,.i64,[],true,[.nilFunc]⟩),
  (189,⟨1,false,9,0,16,.i64,[],true,[.nilIface]⟩),
  (196,⟨1,false,6,0,8,.i64,[],true,[.int .i64 0]⟩),
  (203,⟨1,false,6,0,4,.u32,[],true,[.int .u32 0]⟩),
  (204,⟨1,false,6,0,8,.u64,[],true,[.int .u64 0]⟩),
  (208,⟨1,false,7,3,8,.i64,[],true,[.pointer none]⟩),
  (210,⟨1,false,7,204,8,.i64,[],true,[.pointer none]⟩)]
theorem bW:∀p∈tab,lu Tryz.prog p.1=some p.2:=by
 have h:tab.map (λp=>lu Tryz.prog p.1)=tab.map (λp=>some p.2):=by kernel_rfl
 intro p hp;obtain⟨i,hi⟩:=List.getElem?_of_mem hp;have h1:=congrArg (λl=>l[i]?) h;simp only[ab5,hi,amk,Option.some.injEq]at h1;exact h1
def dX:Int->List Int->Int
 |n,[]=>n
 |n,d::r=>if d<1\/d>64/n then 0 else dX (n*d) r
@[irreducible] def au (xs:List Int):Int:=if xs.length<1\/3<xs.length then 0 else dX 1 xs
theorem drop_at{α:Type}{xs:List α}{k:Nat}(h:k<xs.length):xs.drop k=xs[k]::xs.drop (k+1):=ahc h
theorem nS(w:World)(sb:Option Addr)(sc:Nat)(xs:List Int)(hx:bE w sb 1 (aZ xs)):
 Calls Tryz.prog 61 #[.slice sb xs.length sc] w λe w'=>e= .returned (.int .i64 (au xs))/\Ext w w':=by
 by_cases hl:xs.length<1\/3<xs.length
 ·have hs:au xs=0:=by unfold au;rw[if_pos hl]
  rw[hs];refine fH Tryz.func61 [.c (.slice sb xs.length sc)] ?_;repeat' ((conv=>whnf)<;>first|refine a_ ?_|refine ag ?_ ?_<;>intro _)
  all_goals exact dK λρ w' hw=>⟨rfl,bG hw (λ_ _ h=>h)⟩
 ·have hs:au xs=dX 1 xs:=by unfold au;rw[if_neg hl]
  rw[hs];refine fH Tryz.func61 [.c (.slice sb xs.length sc)] ?_;repeat' ((conv=>whnf)<;>first|refine a_ ?_|refine ag ?_ ?_<;>intro _)
  obtain⟨a,rfl⟩:∃a,sb=some a:=aT (j:=0) hx dS;refine Wp.loop (σ:=Nat×Int) 0 (λ⟨k,n⟩=>[(14,.c (.slice (some a) xs.length sc)),(15,aC xs.length),(16,aC k),(3,aC n)]) (λ_=>[]) (λ_=>aU w)
   (λs=>s.1<=xs.length/\1<=s.2/\s.2<=64/\dX 1 xs=dX s.2 (xs.drop s.1)) (λs=>xs.length-s.1) (0,1) [] (Tw _) (λs=>⟨rfl,rfl⟩) ⟨by simp,by simp,by simp,rfl⟩ ⟨rfl,⟨rfl,rfl,rfl,rfl,trivial⟩,trivial,λ_ _ h=>h⟩ ?_
  rintro⟨k,n⟩ ⟨hk,h1,h64,he⟩;simp only at hk h1 h64 he;by_cases hlt:k<xs.length
  ·rw[drop_at hlt]at he;simp only[dX]at he;have hdiv:64/n<=64:=aku _ aa;have hmul:1<=xs[k]->xs[k]<=64/n->1<=n*xs[k]/\n*xs[k]<=64:=λg1 g2=>by
    have g3:xs[k]*n<=64:=aha (ahi g2 aa) (Int.ediv_mul_le _ aa);have g4:n*1<=n*xs[k]:=ai6 g1 aa;rw[ajF]at g3;omega
   repeat' ((conv=>whnf)<;>first|refine aM a k rfl rfl hlt ?_|refine bN (λR w' h=>aH h hx) _ _ (eO hlt) rfl ?_|refine div_pos rfl aa aa aa ?_|refine wrap_i64 (by have:=hmul aa aa;omega) (by have:=hmul aa aa;omega) ?_|refine a_ ?_|refine ag ?_ ?_<;>intro _)
   ·rw[if_pos (.inl aa)]at he;rw[he];exact dK λρ w' hw=>⟨rfl,bG hw (λ_ _ h=>h)⟩
   ·rw[if_pos (.inr aa)]at he;rw[he];exact dK λρ w' hw=>⟨rfl,bG hw (λ_ _ h=>h)⟩
   ·rw[if_neg aa]at he;have:=hmul aa aa;exact⟨(k+1,n*xs[k]),[],⟨hlt,this.1,this.2,he⟩,by simp only;omega,rfl,fE,trivial,λ_ _ h=>h⟩
  ·have hkl:xs.drop k=[]:=by simp;omega
   rw[hkl]at he;rw[he];repeat' ((conv=>whnf)<;>first|refine a_ ?_|refine ag ?_ ?_<;>intro _)
   exact dK λρ w' hw=>⟨rfl,bG hw (λ_ _ h=>h)⟩
theorem yf{n d:Int}(h1:1<=n)(hd:1<=d):(d>64/n)↔(n*d>64):=by
 constructor
 ·intro h;have:64<n*d:=by
   have h2:=Int.lt_mul_of_ediv_lt (by omega:(0:Int)<n) h
   rwa[ajF]at h2
  omega
 ·intro h;have h2:64<d*n:=by rw[ajF];omega
  exact an8 aa h2
theorem kr(w:World)(sb:Option Addr)(sc:Nat)(xs:List Int)(hx:bE w sb 1 (aZ xs)):
 Calls Tryz.prog 42 #[.slice sb xs.length sc] w λe w'=>e= .returned (.int .i64 (au xs))/\Ext w w':=by
 by_cases hl:xs.length<1\/3<xs.length
 ·have hs:au xs=0:=by unfold au;rw[if_pos hl]
  rw[hs];refine fH Tryz.func42 [.c (.slice sb xs.length sc)] ?_;repeat' ((conv=>whnf)<;>first|refine a_ ?_|refine ag ?_ ?_<;>intro _)
  all_goals exact dK λρ w' hw=>⟨rfl,bG hw (λ_ _ h=>h)⟩
 ·have hs:au xs=dX 1 xs:=by unfold au;rw[if_neg hl]
  rw[hs];refine fH Tryz.func42 [.c (.slice sb xs.length sc)] ?_;repeat' ((conv=>whnf)<;>first|refine a_ ?_|refine ag ?_ ?_<;>intro _)
  obtain⟨a,rfl⟩:∃a,sb=some a:=aT (j:=0) hx dS;refine Wp.loop (σ:=Nat×Int) 0 (λ⟨k,n⟩=>[(14,.c (.slice (some a) xs.length sc)),(15,aC xs.length),(16,aC k),(3,aC n)]) (λ_=>[]) (λ_=>aU w)
   (λs=>s.1<=xs.length/\1<=s.2/\s.2<=64/\dX 1 xs=dX s.2 (xs.drop s.1)) (λs=>xs.length-s.1) (0,1) [] (Tw _) (λs=>⟨rfl,rfl⟩) ⟨by simp,by simp,by simp,rfl⟩ ⟨rfl,⟨rfl,rfl,rfl,rfl,trivial⟩,trivial,λ_ _ h=>h⟩ ?_
  rintro⟨k,n⟩ ⟨hk,h1,h64,he⟩;simp only at hk h1 h64 he;by_cases hlt:k<xs.length
  ·rw[drop_at hlt]at he;simp only[dX]at he;have hb:1<=xs[k]->xs[k]<=64->1<=n*xs[k]/\n*xs[k]<=4096:=λg1 g2=>by
    have g3:n*xs[k]<=64*64:=ag8 h64 g2 aa aa;have g4:n*1<=n*xs[k]:=ai6 g1 aa;omega
   have hq:xs[k]>64->1<=xs[k]->n*xs[k]>64:=λg1 g2=>by
    have g4:1*xs[k]<=n*xs[k]:=ahi h1 aa;omega
   repeat' ((conv=>whnf)<;>first|refine aM a k rfl rfl hlt ?_|refine bN (λR w' h=>aH h hx) _ _ (eO hlt) rfl ?_|refine wrap_i64 sQ sQ ?_|refine a_ ?_|refine ag ?_ ?_<;>intro _)
   ·rw[if_pos (.inl aa)]at he;rw[he];exact dK λρ w' hw=>⟨rfl,bG hw (λ_ _ h=>h)⟩
   ·rw[if_pos (.inr ((yf h1 aa).2 (hq aa aa)))]at he;rw[he];exact dK λρ w' hw=>⟨rfl,bG hw (λ_ _ h=>h)⟩
   ·rw[if_pos (.inr ((yf h1 aa).2 aa))]at he;rw[he];exact dK λρ w' hw=>⟨rfl,bG hw (λ_ _ h=>h)⟩
   ·rename_i h5 h6;have hn:¬(xs[k]<1\/xs[k]>64/n):=by
     rintro(h|h)
     ·omega
     ·have:=(yf h1 aa).1 h;omega
    rw[if_neg hn]at he;have:=hb aa aa;exact⟨(k+1,n*xs[k]),[],⟨hlt,this.1,by simp only;omega,he⟩,by simp only;omega,rfl,fE,trivial,λ_ _ h=>h⟩
  ·have hkl:xs.drop k=[]:=by simp;omega
   rw[hkl]at he;rw[he];repeat' ((conv=>whnf)<;>first|refine a_ ?_|refine ag ?_ ?_<;>intro _)
   exact dK λρ w' hw=>⟨rfl,bG hw (λ_ _ h=>h)⟩
section
theorem ti(t:Nat){i:TI}(h:tab.find? (λp=>Nat.beq p.1 t)=some (t,i)):lu Tryz.prog t=some i:=bW (t,i) (List.mem_of_find?_eq_some h)
theorem mixed:Tryz.prog.follows .mixedOrders=true:=by kernel_rfl
variable {B:Base} {H:Heap} {S:bR} {nx:Nat} {w:World}
theorem bZ{v:SV}{val:Value}(hb:∀R w',S.holds R w'->(aU B.w0).holds R w')(hv:∀ρ,v.rf ρ=val)(hw0:B.w0=w):jS B v H S nx (λe w'=>e= .returned val/\Ext w w'):=by
 subst hw0;exact dK λρ w' hw=>⟨by rw[hv],bG hw hb⟩
variable {k:Nat} {xs:List (List Value)}
theorem kF{a:Addr}{m:Nat}{K:List (List Value)->Prop}(hm:xs.length=m)(hS:∀R w,S.holds R w->bE w (some a) k xs)(hx:∀r∈xs,r.length=k/\∀v∈r,v.oneCell'=true)(h:K xs):tV a m k S K:=by
 rw[KW];refine⟨xs,hm,hx,λR w hw i r hi j v hj=> ?_,h⟩;rcases hS R w hw with h0|⟨a',ha,h1⟩
 ·subst h0;simp at hi
 ·obtain rfl:a=a':=by simpa using ha
  exact h1 i r hi j v hj
theorem gT{i n:Nat}{T:TypeId}(hb:∀R w',S.holds R w'->(aU B.w0).holds R w')(hw0:B.w0=w)(he:(i,b_.rows xs k T)∈H)(hn:n=xs.length):
 jS B (.os i n) H S nx (λe w'=>∃v,e= .returned v/\Ext w w'/\je w w' v k T xs):=by
 subst hw0 hn;exact dK λρ w' hw=>⟨_,rfl,bG hw hb,fI hw hb he⟩
theorem bq{b:Bool}{c:Bool}(hb:∀R w',S.holds R w'->(aU B.w0).holds R w')(hw0:B.w0=w)(h:c=b):jS B (.c (.bool b)) H S nx (λe w'=>e= .returned (.bool c)/\Ext w w'):=
 bZ hb (λ_=>by rw[h];rfl) hw0
structure ax where
 base:Option Addr
 cap:Nat
 xs:List Int
def ax.val(v:ax):Value:= .slice v.base v.xs.length v.cap
structure ax.ok(w:World)(v:ax):Prop where
 rows:bE w v.base 1 (aZ v.xs)
 fits:∀x∈v.xs,-9223372036854775808<=x/\x<=9223372036854775807
 room:v.xs.length<=v.cap
 few:v.xs.length<=1000000
theorem ax.ok.base{w:World}{v:ax}(h:v.ok w)(hl:0<v.xs.length):∃a,v.base=some a:=aT (j:=0) h.rows (by rw[aP];exact hl)
theorem Rh{xs ys:List Int}(hx:k<xs.length)(hy:k<ys.length)(h:xs.take k=ys.take k)(he:xs[k]=ys[k]):xs.take (k+1)=ys.take (k+1):=by
 rw[ajP hx,ajP hy,h,he]
theorem Nv(w:World)(x y:ax)(hx:x.ok w)(hy:y.ok w):
 Calls Tryz.prog 20 #[x.val,y.val] w λe w'=>e= .returned (.bool (decide (x.xs=y.xs)))/\Ext w w':=by
 obtain⟨ab,ac,xs⟩:=x;obtain⟨bb,bc,ys⟩:=y;obtain⟨hx,_,_,ug⟩:=hx;obtain⟨hy,_,_,_⟩:=hy;simp only[ax.val]at*;refine fH Tryz.func20 [.c (.slice ab xs.length ac),.c (.slice bb ys.length bc)] ?_;repeat' ((conv=>whnf)<;>first|refine bV ?_|refine ag ?_ ?_<;>intro _)
 ·exact bq (λ_ _ h=>h) rfl (decide_eq_false (λh=>by subst h;omega))
 rename_i hne;refine Wp.loop (σ:=Nat) 0 (λk=>[(0,.c (.slice ab xs.length ac)),(1,.c (.slice bb ys.length bc)),(12,aC xs.length),(13,aC k)]) (λ_=>[]) (λ_=>aU w)
  (λk=>k<=xs.length/\xs.take k=ys.take k) (λk=>xs.length-k) 0 [] (Tw _) (λs=>⟨rfl,rfl⟩) ⟨by simp,by simp⟩ ⟨rfl,⟨rfl,rfl,rfl,rfl,trivial⟩,trivial,λ_ _ h=>h⟩ ?_
 rintro k ⟨hk,he⟩;by_cases hlt:k<xs.length
 ·have hlt2:k<ys.length:=by omega
  obtain⟨a,rfl⟩:∃a,ab=some a:=aT (j:=k) hx dS;obtain⟨b,rfl⟩:∃a,bb=some a:=aT (j:=k) hy dS;repeat' ((conv=>whnf)<;>first|refine EI bW mixed bg ?_|refine aM a k rfl rfl hlt ?_|refine aM b k rfl rfl hlt2 ?_|refine bN (λR w' h=>aH h hx) _ _ (eO hlt) rfl ?_|refine bN (λR w' h=>aH h hy) _ _ (eO hlt2) rfl ?_|refine bV ?_|refine ag ?_ ?_<;>intro _)
  ·exact bq (λ_ _ h=>h) rfl (decide_eq_false (λh=>by subst h;omega))
  ·rename_i h5;exact⟨k+1,[],⟨hlt,Rh hlt hlt2 he aa⟩,by omega,rfl,fE,trivial,λ_ _ h=>h⟩
 ·have hxy:xs=ys:=by rw[aen aa,aen aa]at he;exact he
  repeat' ((conv=>whnf)<;>first|refine bV ?_|refine ag ?_ ?_<;>intro _)
  exact bq (λ_ _ h=>h) rfl (decide_eq_true hxy)
theorem tK(w:World)(x y:ax)(hx:x.ok w)(hy:y.ok w):
 Calls Tryz.prog 62 #[x.val,y.val] w λe w'=>e= .returned (.bool (decide (x.xs=y.xs)))/\Ext w w':=by
 obtain⟨ab,ac,xs⟩:=x;obtain⟨bb,bc,ys⟩:=y;obtain⟨hx,_,_,ug⟩:=hx;obtain⟨hy,_,_,_⟩:=hy;simp only[ax.val]at*;refine fH Tryz.func62 [.c (.slice ab xs.length ac),.c (.slice bb ys.length bc)] ?_;repeat' ((conv=>whnf)<;>first|refine bV ?_|refine ag ?_ ?_<;>intro _)
 ·exact bq (λ_ _ h=>h) rfl (decide_eq_false (λh=>by subst h;omega))
 rename_i hne;refine Wp.loop (σ:=Nat) 0 (λk=>[(0,.c (.slice ab xs.length ac)),(1,.c (.slice bb ys.length bc)),(12,aC xs.length),(13,aC k)]) (λ_=>[]) (λ_=>aU w)
  (λk=>k<=xs.length/\xs.take k=ys.take k) (λk=>xs.length-k) 0 [] (Tw _) (λs=>⟨rfl,rfl⟩) ⟨by simp,by simp⟩ ⟨rfl,⟨rfl,rfl,rfl,rfl,trivial⟩,trivial,λ_ _ h=>h⟩ ?_
 rintro k ⟨hk,he⟩;by_cases hlt:k<xs.length
 ·have hlt2:k<ys.length:=by omega
  obtain⟨a,rfl⟩:∃a,ab=some a:=aT (j:=k) hx dS;obtain⟨b,rfl⟩:∃a,bb=some a:=aT (j:=k) hy dS;repeat' ((conv=>whnf)<;>first|refine EI bW mixed bg ?_|refine aM a k rfl rfl hlt ?_|refine aM b k rfl rfl hlt2 ?_|refine bN (λR w' h=>aH h hx) _ _ (eO hlt) rfl ?_|refine bN (λR w' h=>aH h hy) _ _ (eO hlt2) rfl ?_|refine bV ?_|refine ag ?_ ?_<;>intro _)
  ·exact bq (λ_ _ h=>h) rfl (decide_eq_false (λh=>by subst h;omega))
  ·rename_i h5;exact⟨k+1,[],⟨hlt,Rh hlt hlt2 he aa⟩,by omega,rfl,fE,trivial,λ_ _ h=>h⟩
 ·have hxy:xs=ys:=by rw[aen aa,aen aa]at he;exact he
  repeat' ((conv=>whnf)<;>first|refine bV ?_|refine ag ?_ ?_<;>intro _)
  exact bq (λ_ _ h=>h) rfl (decide_eq_true hxy)
end
open Go.RowKit
theorem adQ(w:World)(x y:Nat)(hx:x<18446744073709551616)(hy:y<18446744073709551616):Calls Tryz.prog 144 #[.int .u64 x,.int .u64 y] w λe w'=>e= .returned (.tuple #[.int .u64 ((x*y/18446744073709551616:Nat):Int),.int .u64 ((x*y%18446744073709551616:Nat):Int)])/\Ext w w':=by
 obtain⟨bd,bt,bw,hhi⟩:=Lib.mul64_hi x y hx hy;have ba:=Lib.half_mul_le (a:=x/4294967296) (b:=y/4294967296) aa aa;have bb:=Lib.half_mul_le (a:=x/4294967296) (b:=y%4294967296) aa aa;have bc:=Lib.half_mul_le (a:=x%4294967296) (b:=y/4294967296) aa aa;have ba':x/4294967296*(y/4294967296)<18446744073709551616:=by omega
 have bb':x/4294967296*(y%4294967296)<18446744073709551616:=by omega
 have bc':x%4294967296*(y/4294967296)<18446744073709551616:=by omega
 have bh1:x/4294967296*(y/4294967296)+(x/4294967296*(y%4294967296)+x%4294967296*(y%4294967296)/4294967296)/4294967296<18446744073709551616:=by omega
 have bh:x/4294967296*(y/4294967296)+(x/4294967296*(y%4294967296)+x%4294967296*(y%4294967296)/4294967296)/4294967296+((x/4294967296*(y%4294967296)+x%4294967296*(y%4294967296)/4294967296)%4294967296+x%4294967296*(y/4294967296))/4294967296<18446744073709551616:=by omega
 refine fH Tryz.func144 [.c (.int .u64 x),.c (.int .u64 y)] ?_;repeat' ((conv=>whnf)<;>first|(show Ci ..;refine agh ?_)|(show CJ ..;refine aiy 32 rfl ay ?_)|(show fF ..;(first|exact RG (x*y) (akv x y).symm ?_|refine adh ?_|refine acY ?_|refine RG (x*y) (akv x y).symm ?_))|refine a_ ?_)
 all_goals(conv=>whnf)
 all_goals exact bZ (λ_ _ h=>h) (λ_=>by rw[<-hhi];rfl) rfl
theorem acy(x y:Nat)(hx:x<1073741824)(hy:y<1073741824)(w:World):
 (callFunc 140 #[.int .u64 (x:Int),.int .u64 (y:Int),.int .u64 0]).run Tryz.prog w=
   .ok (.value (.tuple #[.int .u64 ((x+y:Nat):Int),.int .u64 ((0:Nat):Int)])) w:=by
 have h:=run_callFunc_extern (P:=Tryz.prog) Tryz.func140 bg bg bg (e:=add64Entry) bg (args:= #[.int .u64 (x:Int),.int .u64 (y:Int),.int .u64 0]) (w:=w);rw[run_add64 x y 0 aa aa aa aa]at h;have e1:((x:Int)+y+0)%18446744073709551616=((x+y:Nat):Int):=by omega
 have e2:((x:Int)+y+0)/18446744073709551616=((0:Nat):Int):=by omega
 rw[e1,e2]at h;exact h
theorem pI{a b c:Nat}{K:Int->Prop}(e:a%b=c)(hk:K (c:Int))(hb:0<b:=by first|assumption|omega):x8 (a:Int) (b:Int) K:=by subst e;exact Yi hk hb
theorem afQ(w:World)(a b m:Nat)(hm:0<m)(hm2:m<=1073741824):Calls Tryz.prog 95 #[.int .u64 a,.int .u64 b,.int .u64 m] w λe w'=>e= .returned (.int .u64 (((a+b)%m:Nat):Int))/\Ext w w':=by
 have h1:=akx a hm;have h2:=akx b hm;have e:(a%m+b%m)%m=(a+b)%m:=(Nat.add_mod a b m).symm;generalize hx:a%m=x at*;generalize hy:b%m=y at*;have hadd:=λw'=>acy x y aa aa w';rw[<-e];refine fH Tryz.func95 [.c (.int .u64 a),.c (.int .u64 b),.c (.int .u64 m)] ?_;by_cases h:x+y<m
 ·rw[akr h];repeat' ((conv=>whnf)<;>first|refine bn ?_|(show x8 ..;(first|refine pI hx ?_|refine pI hy ?_))|refine NW ?_|(show cO _ 3 ..;refine Ky bW mixed [140] bg ?_)|refine bV ?_)
  all_goals(conv=>whnf)
  all_goals exact bZ (λ_ _ h=>h) (λ_=>rfl) rfl
 ·have e2:(x+y)%m=x+y-m:=by rw[Nat.mod_eq_sub_mod aa,akr aa]
  rw[e2];repeat' ((conv=>whnf)<;>first|refine bn ?_|(show x8 ..;(first|refine pI hx ?_|refine pI hy ?_))|(show fF ..;refine zh (x+y-m) aa aa ?_)|refine NW ?_|(show cO _ 3 ..;refine Ky bW mixed [140] bg ?_)|refine bV ?_)
  all_goals(conv=>whnf)
  all_goals exact bZ (λ_ _ h=>h) (λ_=>rfl) rfl
section
variable {z:Int} {K:Int->Prop}
theorem pF(y:Int)(h:z=y)(h1: -9223372036854775808<=y)(h2:y<=9223372036854775807)(hk:K y):fF .i64 z K:=by
 subst h;exact wrap_i64 h1 h2 hk
theorem SI(y:Nat)(h:z+18446744073709551616=y)(hy:y<18446744073709551616)(hk:K y):fF .u64 z K:=by
 refine RF ?_;have:z%18446744073709551616=(y:Int):=by omega
 rw[this];exact hk
theorem abj{a c:Nat}{y:Int}(k:Nat)(hy:y=k)(aju:k<=64)(e:a/2^k=c)(hk:K (c:Int)):CJ .shr .u64 (a:Int) y K:=by subst e;exact aiy k hy aju hk
theorem afj(w:World)(b m:Nat)(hm:0<m)(hm2:m<=1073741824):Calls Tryz.prog 158 #[.int .u64 0,.int .u64 b,.int .u64 m] w λe w'=>e= .returned (.int .u64 (((m-b%m)%m:Nat):Int))/\Ext w w':=by
 have h2:=akx b hm;generalize hy:b%m=y at*;refine fH Tryz.func158 [.c (.int .u64 0),.c (.int .u64 b),.c (.int .u64 m)] ?_;by_cases h:y=0
 ·subst h;rw[am4,Nat.mod_self];repeat' ((conv=>whnf)<;>first|refine bn ?_|(show x8 ..;(first|refine pI (a:=0) (c:=0) (Nat.zero_mod m) ?_|refine pI hy ?_))|(show fF ..;refine zh 0 aa aa ?_)|refine bV ?_)
  all_goals(conv=>whnf)
  all_goals exact bZ (λ_ _ h=>h) (λ_=>rfl) rfl
 ·rw[akr (show m-y<m by omega)];repeat' ((conv=>whnf)<;>first|refine bn ?_|(show x8 ..;(first|refine pI (a:=0) (c:=0) (Nat.zero_mod m) ?_|refine pI hy ?_))|(show fF ..;refine zh (m-y) aa aa ?_)|refine bV ?_)
  all_goals(conv=>whnf)
  all_goals exact bZ (λ_ _ h=>h) (λ_=>rfl) rfl
theorem WZ(w:World)(z:Int)(m:Nat)(hz: -9223372036854775808<=z/\z<=9223372036854775807)(hm:0<m)(hm2:m<=1073741824):Calls Tryz.prog 142 #[.int .i64 z,.int .u64 m] w λe w'=>e= .returned (.int .u64 (z%m))/\Ext w w':=by
 refine fH Tryz.func142 [aC z,.c (.int .u64 m)] ?_;by_cases h:0<=z
 ·obtain⟨n,rfl⟩:∃n:Nat,z=n:=⟨z.toNat,by omega⟩;repeat' ((conv=>whnf)<;>first|refine bn ?_|(show x8 ..;refine Yi ?_)|(show fF ..;refine zh n rfl aa ?_)|refine a_ ?_)
  all_goals(conv=>whnf)
  all_goals exact bZ (λ_ _ h=>h) (λ_=>rfl) rfl
 ·obtain⟨n,rfl⟩:∃n:Nat,z= -(n:Int):=⟨(-z).toNat,by omega⟩;have e:(-(n:Int))%(m:Int)=(((m-n%m)%m:Nat):Int):=by
   have h1:=akx n hm;have h3:(n:Int)=m*(n/m:Nat)+(n%m:Nat):=by have:=Nat.div_add_mod n m;exact_mod_cast this.symm
   have h4: -(n:Int)=((m-n%m:Nat):Int)+m*(-(((n/m:Nat):Int))-1):=by
    rw[h3,Int.mul_sub,Int.mul_neg,Int.mul_one];omega
   rw[h4,Int.add_mul_emod_self_left];rfl
  rw[e];repeat' ((conv=>whnf)<;>first|refine bn ?_|(show fF ..;(first|refine SI (18446744073709551616-n) aa aa ?_|refine SI n aa aa ?_))|(show aJ _ 158 ..;refine aR (f:=158) Tryz.call158 (.int .u64 (((m-n%m)%m:Nat):Int)) (λρ w' _=>afj w' n m hm hm2) ?_)|refine a_ ?_)
  all_goals(conv=>whnf)
  all_goals exact bZ (λ_ _ h=>h) (λ_=>rfl) rfl
def qj(m:Nat)(a:Int):Int:=if(m/2:Nat)<a then a-m else a
theorem aaE(w:World)(a m:Nat)(ha:a<m)(hm:0<m)(hm2:m<=1073741824):Calls Tryz.prog 47 #[.int .u64 a,.int .u64 m] w λe w'=>e= .returned (.int .i64 (qj m a))/\Ext w w':=by
 have e1:m/2^1=m/2:=by rw[Nat.pow_one]
 refine fH Tryz.func47 [.c (.int .u64 a),.c (.int .u64 m)] ?_;by_cases h:m/2<a
 ·have hc:qj m a=(a:Int)-m:=by unfold qj;rw[if_pos aa]
  rw[hc];repeat' ((conv=>whnf)<;>first|refine bn ?_|(show x8 ..;refine pI (akr ha) ?_)|(show CJ ..;refine abj 1 rfl ay e1 ?_)|(show fF ..;(first|refine pF (a:Int) rfl aa aa ?_|refine pF (m:Int) rfl aa aa ?_|refine pF ((a:Int)-m) rfl aa aa ?_))|refine a_ ?_)
  all_goals(conv=>whnf)
  all_goals exact bZ (λ_ _ h=>h) (λ_=>rfl) rfl
 ·have hc:qj m a=(a:Int):=by unfold qj;rw[if_neg aa]
  rw[hc];repeat' ((conv=>whnf)<;>first|refine bn ?_|(show x8 ..;refine pI (akr ha) ?_)|(show CJ ..;refine abj 1 rfl ay e1 ?_)|(show fF ..;refine pF (a:Int) rfl aa aa ?_)|refine a_ ?_)
  all_goals(conv=>whnf)
  all_goals exact bZ (λ_ _ h=>h) (λ_=>rfl) rfl
end
def nR(xs:List Int):Bool:=xs.all λv=>decide (-1048576<=v/\v<=1048576)
theorem BU(w:World)(x:ax)(hx:x.ok w):
 Calls Tryz.prog 81 #[x.val] w λe w'=>e= .returned (.bool (nR x.xs))/\Ext w w':=by
 obtain⟨ab,ac,xs⟩:=x;obtain⟨hx,_,_,ug⟩:=hx;simp only[ax.val]at*;refine fH Tryz.func81 [.c (.slice ab xs.length ac)] ?_;repeat' ((conv=>whnf)<;>first|refine a_ ?_|refine ag ?_ ?_<;>intro _)
 refine Wp.loop (σ:=Nat) 0 (λk=>[(5,.c (.slice ab xs.length ac)),(6,aC xs.length),(7,aC k)]) (λ_=>[]) (λ_=>aU w)
  (λk=>k<=xs.length/\nR xs=nR (xs.drop k)) (λk=>xs.length-k) 0 [] (Tw _) (λs=>⟨rfl,rfl⟩) ⟨by simp,by simp⟩ ⟨rfl,⟨rfl,rfl,rfl,trivial⟩,trivial,λ_ _ h=>h⟩ ?_
 rintro k ⟨hk,he⟩;by_cases hlt:k<xs.length
 ·obtain⟨a,rfl⟩:∃a,ab=some a:=aT (j:=k) hx dS;rw[drop_at hlt]at he;simp only[nR,List.all_cons]at he;repeat' ((conv=>whnf)<;>first|refine aM a k rfl rfl hlt ?_|refine bN (λR w' h=>aH h hx) _ _ (eO hlt) rfl ?_|refine a_ ?_|refine ag ?_ ?_<;>intro _)
  ·exact bq (λ_ _ h=>h) rfl PP
  ·exact bq (λ_ _ h=>h) rfl PP
  ·rw[decide_eq_true (p:= -1048576<=xs[k]/\xs[k]<=1048576) aa,anE]at he;exact⟨k+1,[],⟨hlt,he⟩,by omega,rfl,fE,trivial,λ_ _ h=>h⟩
 ·rw[amC (show xs.length<=k by omega)]at he;repeat' ((conv=>whnf)<;>first|refine a_ ?_|refine ag ?_ ?_<;>intro _)
  exact bq (λ_ _ h=>h) rfl (by rw[he];rfl)
def foldI(f:Int->Int->Int):List Int->Int
 |[]=>0
 |x::r=>r.foldl f x
theorem Ny{f:Int->Int->Int}{xs:List Int}{k:Nat}(h:k<xs.length)(h0:0<k):foldI f (xs.take (k+1))=f (foldI f (xs.take k)) xs[k]:=by
 rw[ajP h];obtain⟨x,r,e⟩:∃x r,xs.take k=x::r:=by
  cases hx:xs.take k with
  |nil=>have:=congrArg List.length hx;rw[aek,amn]at this;omega
  |cons x r=>exact⟨x,r,rfl⟩
 rw[e];simp[foldI]
theorem Ux(w:World)(x:ax)(hx:x.ok w)(hl:1<=x.xs.length):
 Calls Tryz.prog 53 #[x.val] w λe w'=>e= .returned (.int .i64 (foldI max x.xs))/\Ext w w':=by
 obtain⟨ab,ac,xs⟩:=x;obtain⟨hx,_,_,ug⟩:=hx;simp only[ax.val]at*;obtain⟨a,rfl⟩:∃a,ab=some a:=aT (j:=0) hx dS;refine fH Tryz.func53 [.c (.slice (some a) xs.length ac)] ?_;repeat' ((conv=>whnf)<;>first|refine aM a 0 rfl rfl hl ?_|refine bN (λR w' h=>aH h hx) _ _ (eO hl) rfl ?_|refine a_ ?_|refine ag ?_ ?_<;>intro _)
 refine Wp.loop (σ:=Nat×Int) 0 (λ⟨k,m⟩=>[(0,.c (.slice (some a) xs.length ac)),(3,aC m),(4,aC k)]) (λ_=>[]) (λ_=>aU w)
  (λs=>1<=s.1/\s.1<=xs.length/\s.2=foldI max (xs.take s.1)) (λs=>xs.length-s.1) (1,xs[0]) [] (Tw _) (λs=>⟨rfl,rfl⟩) ⟨by simp,hl,by cases xs with|nil=>simp at hl|cons y r=>simp[foldI]⟩ ⟨rfl,⟨rfl,rfl,rfl,trivial⟩,trivial,λ_ _ h=>h⟩ ?_
 rintro⟨k,m⟩ ⟨h1,hk,he⟩;simp only at h1 hk he;by_cases hlt:k<xs.length
 ·have hs:=Ny (f:=max) hlt h1;rw[<-he]at hs;repeat' ((conv=>whnf)<;>first|refine aM a k rfl rfl hlt ?_|refine bN (λR w' h=>aH h hx) _ _ (eO hlt) rfl ?_|refine a_ ?_|refine ag ?_ ?_<;>intro _)
  all_goals exact⟨(k+1,_),[],⟨by simp,hlt,by simp only;omega⟩,by simp only;omega,rfl,⟨rfl,rfl,rfl,trivial⟩,trivial,λ_ _ h=>h⟩
 ·rw[aen aa]at he;repeat' ((conv=>whnf)<;>first|refine a_ ?_|refine ag ?_ ?_<;>intro _)
  exact bZ (λ_ _ h=>h) (λ_=>by rw[<-he];rfl) rfl
theorem U5(w:World)(x:ax)(hx:x.ok w)(hl:1<=x.xs.length):
 Calls Tryz.prog 52 #[x.val] w λe w'=>e= .returned (.int .i64 (foldI min x.xs))/\Ext w w':=by
 obtain⟨ab,ac,xs⟩:=x;obtain⟨hx,_,_,ug⟩:=hx;simp only[ax.val]at*;obtain⟨a,rfl⟩:∃a,ab=some a:=aT (j:=0) hx dS;refine fH Tryz.func52 [.c (.slice (some a) xs.length ac)] ?_;repeat' ((conv=>whnf)<;>first|refine aM a 0 rfl rfl hl ?_|refine bN (λR w' h=>aH h hx) _ _ (eO hl) rfl ?_|refine a_ ?_|refine ag ?_ ?_<;>intro _)
 refine Wp.loop (σ:=Nat×Int) 0 (λ⟨k,m⟩=>[(0,.c (.slice (some a) xs.length ac)),(3,aC m),(4,aC k)]) (λ_=>[]) (λ_=>aU w)
  (λs=>1<=s.1/\s.1<=xs.length/\s.2=foldI min (xs.take s.1)) (λs=>xs.length-s.1) (1,xs[0]) [] (Tw _) (λs=>⟨rfl,rfl⟩) ⟨by simp,hl,by cases xs with|nil=>simp at hl|cons y r=>simp[foldI]⟩ ⟨rfl,⟨rfl,rfl,rfl,trivial⟩,trivial,λ_ _ h=>h⟩ ?_
 rintro⟨k,m⟩ ⟨h1,hk,he⟩;simp only at h1 hk he;by_cases hlt:k<xs.length
 ·have hs:=Ny (f:=min) hlt h1;rw[<-he]at hs;repeat' ((conv=>whnf)<;>first|refine aM a k rfl rfl hlt ?_|refine bN (λR w' h=>aH h hx) _ _ (eO hlt) rfl ?_|refine a_ ?_|refine ag ?_ ?_<;>intro _)
  all_goals exact⟨(k+1,_),[],⟨by simp,hlt,by simp only;omega⟩,by simp only;omega,rfl,⟨rfl,rfl,rfl,trivial⟩,trivial,λ_ _ h=>h⟩
 ·rw[aen aa]at he;repeat' ((conv=>whnf)<;>first|refine a_ ?_|refine ag ?_ ?_<;>intro _)
  exact bZ (λ_ _ h=>h) (λ_=>by rw[<-he];rfl) rfl
theorem Du(w:World)(x:ax)(hx:x.ok w)(hs:0<x.xs.length):
 Calls Tryz.prog 32 #[x.val] w λe w'=>∃v,e= .returned v/\Ext w w'/\je w w' v 1 3 (aZ x.xs):=by
 obtain⟨ab,ac,xs⟩:=x;obtain⟨a,rfl⟩:∃a,ab=some a:=aT (j:=0) hx.rows (by rw[aP];exact hs);obtain⟨hx,_,_,ug⟩:=hx;simp only[ax.val]at*;refine fH Tryz.func32 [.c (.slice (some a) xs.length ac)] ?_;repeat' ((conv=>whnf)<;>first|refine ji (ti 32 rfl) rfl ?_|refine a_ ?_)
 have hil:=aP xs;repeat' ((conv=>whnf)<;>first|refine kF (aP xs) (λR w' h=>aH h hx) kJ ?_|refine a_ ?_)
 exact gT (λ_ _ h=>h) rfl (.head _) Ar
structure ak where
 ai:Int
 a:Int
 b:Int
 az:ax
 lo:Int
 hi:Int
 size:Int
 data:ax
 aQ:ax
def i64(x:Int):Prop:= -9223372036854775808<=x/\x<=9223372036854775807
structure ak.ok(w:World)(n:ak):Prop where
 az:n.az.ok w
 data:n.data.ok w
 aQ:n.aQ.ok w
 lQ:i64 n.ai
 Cr:i64 n.a
 yh:i64 n.b
 nk:i64 n.lo
 ng:i64 n.hi
 lV:i64 n.size
def ak.cells(n:ak):List Value:=[.int .i64 n.ai,.int .i64 n.a,.int .i64 n.b,n.az.val,.int .i64 n.lo,.int .i64 n.hi,.int .i64 n.size,n.data.val,n.aQ.val]
abbrev vo(n:ak):List SV:=[aC n.ai,aC n.a,aC n.b,.c n.az.val,aC n.lo,aC n.hi,aC n.size,.c n.data.val,.c n.aQ.val]
def nI(n:ak)(at_:Int)(sv:Value):Value:= .agg #[.int .i64 n.ai,.int .i64 n.a,.int .i64 n.b,n.az.val,.int .i64 n.lo,.int .i64 n.hi,.int .i64 n.size,n.data.val,n.aQ.val,.int .i64 at_,sv]
@[irreducible] def gW (n:ak) (a b sh sp si da bi:Bool):Bool:=
  (a||decide (n.a=0))&&(b||decide (n.b=0))&&(sh||decide (n.az.xs.length=0))&&(sp||(decide (n.lo=0)&&decide (n.hi=0)))&&(si||decide (n.size=0))&&(da||decide (n.data.xs.length=0))&&(bi||decide (n.aQ.xs.length=0))
def akk:List (Bool×Bool×Bool×Bool×Bool×Bool×Bool):=[(false,false,true,true,false,false,false),(false,false,true,false,false,true,false),(true,false,false,false,false,true,true),(true,false,true,false,false,true,true),(true,false,false,false,true,false,false),(true,true,false,false,false,false,false),(true,false,false,false,false,true,false),(true,false,true,false,false,false,false)]
theorem SY(w:World)(n:ak)(at_:Int)(sv:Value)(a b sh sp si da bi:Bool)(h:(akk.contains (a,b,sh,sp,si,da,bi))=true):
 Calls Tryz.prog 114 #[nI n at_ sv,.bool a,.bool b,.bool sh,.bool sp,.bool si,.bool da,.bool bi] w λe w'=>e= .returned (.bool (gW n a b sh sp si da bi))/\Ext w w':=by
 have h':(a,b,sh,sp,si,da,bi)∈akk:=List.contains_iff_mem.1 h;clear h;simp only[akk,abr,Prod.mk.injEq,aiF,or_false]at h';rcases h' with h|h|h|h|h|h|h|h
 ·obtain⟨rfl,rfl,rfl,rfl,rfl,rfl,rfl⟩:=h;refine fH Tryz.func114 [.agg [aC n.ai,aC n.a,aC n.b,.c n.az.val,aC n.lo,aC n.hi,aC n.size,.c n.data.val,.c n.aQ.val,aC at_,.c sv],.c (.bool false),.c (.bool false),.c (.bool true),.c (.bool true),.c (.bool false),.c (.bool false),.c (.bool false)] ?_;repeat' ((conv=>whnf)<;>first|refine a_ ?_|refine ag ?_ ?_<;>intro _)
  all_goals exact bq (λ_ _ h=>h) rfl nM
 ·obtain⟨rfl,rfl,rfl,rfl,rfl,rfl,rfl⟩:=h;refine fH Tryz.func114 [.agg [aC n.ai,aC n.a,aC n.b,.c n.az.val,aC n.lo,aC n.hi,aC n.size,.c n.data.val,.c n.aQ.val,aC at_,.c sv],.c (.bool false),.c (.bool false),.c (.bool true),.c (.bool false),.c (.bool false),.c (.bool true),.c (.bool false)] ?_;repeat' ((conv=>whnf)<;>first|refine a_ ?_|refine ag ?_ ?_<;>intro _)
  all_goals exact bq (λ_ _ h=>h) rfl nM
 ·obtain⟨rfl,rfl,rfl,rfl,rfl,rfl,rfl⟩:=h;refine fH Tryz.func114 [.agg [aC n.ai,aC n.a,aC n.b,.c n.az.val,aC n.lo,aC n.hi,aC n.size,.c n.data.val,.c n.aQ.val,aC at_,.c sv],.c (.bool true),.c (.bool false),.c (.bool false),.c (.bool false),.c (.bool false),.c (.bool true),.c (.bool true)] ?_;repeat' ((conv=>whnf)<;>first|refine a_ ?_|refine ag ?_ ?_<;>intro _)
  all_goals exact bq (λ_ _ h=>h) rfl nM
 ·obtain⟨rfl,rfl,rfl,rfl,rfl,rfl,rfl⟩:=h;refine fH Tryz.func114 [.agg [aC n.ai,aC n.a,aC n.b,.c n.az.val,aC n.lo,aC n.hi,aC n.size,.c n.data.val,.c n.aQ.val,aC at_,.c sv],.c (.bool true),.c (.bool false),.c (.bool true),.c (.bool false),.c (.bool false),.c (.bool true),.c (.bool true)] ?_;repeat' ((conv=>whnf)<;>first|refine a_ ?_|refine ag ?_ ?_<;>intro _)
  all_goals exact bq (λ_ _ h=>h) rfl nM
 ·obtain⟨rfl,rfl,rfl,rfl,rfl,rfl,rfl⟩:=h;refine fH Tryz.func114 [.agg [aC n.ai,aC n.a,aC n.b,.c n.az.val,aC n.lo,aC n.hi,aC n.size,.c n.data.val,.c n.aQ.val,aC at_,.c sv],.c (.bool true),.c (.bool false),.c (.bool false),.c (.bool false),.c (.bool true),.c (.bool false),.c (.bool false)] ?_;repeat' ((conv=>whnf)<;>first|refine a_ ?_|refine ag ?_ ?_<;>intro _)
  all_goals exact bq (λ_ _ h=>h) rfl nM
 ·obtain⟨rfl,rfl,rfl,rfl,rfl,rfl,rfl⟩:=h;refine fH Tryz.func114 [.agg [aC n.ai,aC n.a,aC n.b,.c n.az.val,aC n.lo,aC n.hi,aC n.size,.c n.data.val,.c n.aQ.val,aC at_,.c sv],.c (.bool true),.c (.bool true),.c (.bool false),.c (.bool false),.c (.bool false),.c (.bool false),.c (.bool false)] ?_;repeat' ((conv=>whnf)<;>first|refine a_ ?_|refine ag ?_ ?_<;>intro _)
  all_goals exact bq (λ_ _ h=>h) rfl nM
 ·obtain⟨rfl,rfl,rfl,rfl,rfl,rfl,rfl⟩:=h;refine fH Tryz.func114 [.agg [aC n.ai,aC n.a,aC n.b,.c n.az.val,aC n.lo,aC n.hi,aC n.size,.c n.data.val,.c n.aQ.val,aC at_,.c sv],.c (.bool true),.c (.bool false),.c (.bool false),.c (.bool false),.c (.bool false),.c (.bool true),.c (.bool false)] ?_;repeat' ((conv=>whnf)<;>first|refine a_ ?_|refine ag ?_ ?_<;>intro _)
  all_goals exact bq (λ_ _ h=>h) rfl nM
 ·obtain⟨rfl,rfl,rfl,rfl,rfl,rfl,rfl⟩:=h;refine fH Tryz.func114 [.agg [aC n.ai,aC n.a,aC n.b,.c n.az.val,aC n.lo,aC n.hi,aC n.size,.c n.data.val,.c n.aQ.val,aC at_,.c sv],.c (.bool true),.c (.bool false),.c (.bool true),.c (.bool false),.c (.bool false),.c (.bool false),.c (.bool false)] ?_;repeat' ((conv=>whnf)<;>first|refine a_ ?_|refine ag ?_ ?_<;>intro _)
  all_goals exact bq (λ_ _ h=>h) rfl nM
def iI(k at_:Int):Bool:=decide (0<=k/\k<at_)
theorem RZ(w:World)(n:ak)(at_:Int)(sv:Value)(k:Int):
 Calls Tryz.prog 115 #[nI n at_ sv,.int .i64 k] w λe w'=>e= .returned (.bool (iI k at_))/\Ext w w':=by
 refine fH Tryz.func115 [.agg [aC n.ai,aC n.a,aC n.b,.c n.az.val,aC n.lo,aC n.hi,aC n.size,.c n.data.val,.c n.aQ.val,aC at_,.c sv],aC k] ?_;repeat' ((conv=>whnf)<;>first|refine a_ ?_|refine ag ?_ ?_<;>intro _)
 all_goals refine bq (λ_ _ h=>h) rfl ?_
 ·exact decide_eq_true aa
 ·exact decide_eq_false aa
 ·exact decide_eq_false aa
def nE:Int->List Int->Int
 |n,[]=>n
 |n,d::r=>if d<1\/d>64 then 0 else nE (n*d) r
@[irreducible] def h_ (xs:List Int):Int:=if xs.length=4 then nE 1 xs else 0
theorem aan(w:World)(n:ak)(hn:n.az.ok w)(at_:Int)(sv:Value):
 Calls Tryz.prog 116 #[nI n at_ sv] w λe w'=>e= .returned (.int .i64 (h_ n.az.xs))/\Ext w w':=by
 by_cases h4:n.az.xs.length=4
 ·have hs:h_ n.az.xs=nE 1 n.az.xs:=by unfold h_;rw[if_pos h4]
  rw[hs];obtain⟨a,ha⟩:=hn.base aa;refine fH Tryz.func116 [.agg [aC n.ai,aC n.a,aC n.b,.c n.az.val,aC n.lo,aC n.hi,aC n.size,.c n.data.val,.c n.aQ.val,aC at_,.c sv]] ?_;repeat' ((conv=>whnf)<;>first|refine a_ ?_|refine ag ?_ ?_<;>intro _)
  refine Wp.loop (σ:=Nat×Int) 1 (λ⟨k,m⟩=>[(13,.c n.az.val),(14,aC n.az.xs.length),(15,aC k),(3,aC m)]) (λ_=>[]) (λ_=>aU w)
   (λs=>s.1<=4/\1<=s.2/\s.2<=64^s.1/\nE 1 n.az.xs=nE s.2 (n.az.xs.drop s.1)) (λs=>4-s.1) (0,1) [] aa (λs=>⟨rfl,rfl⟩) ⟨by simp,by simp,by simp,rfl⟩ ⟨rfl,⟨rfl,rfl,rfl,rfl,trivial⟩,trivial,λ_ _ h=>h⟩ ?_
  rintro⟨k,m⟩ ⟨hk,h1,h64,he⟩;simp only at hk h1 h64 he;by_cases hlt:k<n.az.xs.length
  ·rw[drop_at hlt]at he;simp only[nE]at he;have hb:1<=n.az.xs[k]->n.az.xs[k]<=64->1<=m*n.az.xs[k]/\m*n.az.xs[k]<=64^(k+1)/\m*n.az.xs[k]<=16777216:=λg1 g2=>by
    have g3:m*n.az.xs[k]<=64^k*64:=ag8 h64 g2 aa aa;have g4:m*1<=m*n.az.xs[k]:=ai6 g1 aa;have g5:(64:Int)^k*64=64^(k+1):=(Int.pow_succ 64 k).symm;have g6:(64:Int)^(k+1)<=16777216:=by
     have:k=0\/k=1\/k=2\/k=3:=by omega
     rcases this with rfl|rfl|rfl|rfl<;>decide
    omega
   repeat' ((conv=>whnf)<;>first|refine aM a k ha rfl hlt ?_|refine bN (λR w' h=>by rw[<-ha];exact aH h hn.rows) _ _ (eO hlt) rfl ?_|refine wrap_i64 sQ sQ ?_|refine a_ ?_|refine ag ?_ ?_<;>intro _)
   ·rw[if_pos (.inl aa)]at he;rw[he];exact bZ (λ_ _ h=>h) (λ_=>rfl) rfl
   ·rw[if_pos (.inr aa)]at he;rw[he];exact bZ (λ_ _ h=>h) (λ_=>rfl) rfl
   ·rw[if_neg aa]at he;have:=hb aa aa;exact⟨(k+1,m*n.az.xs[k]),[],⟨by simp only;omega,this.1,this.2.1,he⟩,by simp only;omega,rfl,fE,trivial,λ_ _ h=>h⟩
  ·have hkl:n.az.xs.drop k=[]:=amC aa;rw[hkl]at he;rw[he];repeat' ((conv=>whnf)<;>first|refine a_ ?_|refine ag ?_ ?_<;>intro _)
   exact bZ (λ_ _ h=>h) (λ_=>rfl) rfl
 ·have hs:h_ n.az.xs=0:=by unfold h_;rw[if_neg h4]
  rw[hs];refine fH Tryz.func116 [.agg [aC n.ai,aC n.a,aC n.b,.c n.az.val,aC n.lo,aC n.hi,aC n.size,.c n.data.val,.c n.aQ.val,aC at_,.c sv]] ?_;repeat' ((conv=>whnf)<;>first|refine a_ ?_|refine ag ?_ ?_<;>intro _)
  exact bZ (λ_ _ h=>h) (λ_=>rfl) rfl
structure aY where
 base:Option Addr
 cap:Nat
 l:List ax
def bA(l:List ax):List (List Value):=l.map λs=>[s.val]
def aY.val(v:aY):Value:= .slice v.base v.l.length v.cap
structure aY.ok(w:World)(v:aY):Prop where
 rows:bE w v.base 1 (bA v.l)
 each:∀s∈v.l,s.ok w
 few:v.l.length<=24
theorem fQ{l:List ax}{k:Nat}(h:k<l.length):(bA l)[k]? =some [l[k].val]:=by simp[bA,h]
theorem acN(l:List ax):(bA l).length=l.length:=by simp[bA]
theorem SN(w:World)(n:ak)(at_:Int)(sv:aY)(hs:sv.ok w)(i:Nat)(s:ax)(hi:sv.l[i]? =some s)(ha:n.a=i):
 Calls Tryz.prog 148 #[nI n at_ sv.val] w λe w'=>e= .returned s.val/\Ext w w':=by
 obtain⟨hil,rfl⟩:=abH.1 hi;obtain⟨a,hb⟩:∃a,sv.base=some a:=aT (j:=i) hs.rows FR;refine fH Tryz.func148 [.agg [aC n.ai,aC n.a,aC n.b,.c n.az.val,aC n.lo,aC n.hi,aC n.size,.c n.data.val,.c n.aQ.val,aC at_,.c sv.val]] ?_;repeat' ((conv=>whnf)<;>first|(show dn ..;refine aM a i hb ha hil ?_)|(show gZ ..;(refine bN (λR w' h=>by rw[<-hb];exact aH h hs.rows) _ _ (fQ hil) rfl ?_))|refine a_ ?_)
 exact bZ (λ_ _ h=>h) (λ_=>rfl) rfl
theorem ax.ok.later{w w':World}{R:Nat->Prop}{v:ax}(h:v.ok w)(hb:(aU w).holds R w'):v.ok w':=⟨aH hb h.rows,h.fits,h.room,h.few⟩
theorem ak.ok.later{w w':World}{R:Nat->Prop}{n:ak}(h:n.ok w)(hb:(aU w).holds R w'):n.ok w':=
 ⟨h.az.later hb,h.data.later hb,h.aQ.later hb,h.lQ,h.Cr,h.yh,h.nk,h.ng,h.lV⟩
theorem aY.ok.later{w w':World}{R:Nat->Prop}{v:aY}(h:v.ok w)(hb:(aU w).holds R w'):v.ok w':=⟨aH hb h.rows,λs hs=>(h.each s hs).later hb,h.few⟩
theorem lN{w:World}{v:ax}(h:v.ok w):∃a,0<v.xs.length->v.base=some a:=by
 by_cases hl:0<v.xs.length
 ·obtain⟨a,ha⟩:=h.base hl;exact⟨a,λ_=>ha⟩
 ·exact⟨⟨0,0,none⟩,λh=>absurd h hl⟩
theorem acM{xs:List Int}{k:Nat}(h:k<xs.length):(aZ xs)[k]? =some [.int .i64 (xs.getD k 0)]:=by rw[eO h];simp[List.getD,h]
theorem Om{xs:List Int}(h:h_ xs>0):xs.length=4:=by
 unfold h_ at h;by_cases h4:xs.length=4
 ·exact h4
 ·rw[if_neg h4]at h;omega
def cz(n:ak)(at_:Int):Bool:=
 if n.ai=1 then gW n false false true true false false false&&decide (au n.az.xs>0)
 else if n.ai=2 then gW n false false true false false true false&&decide (au n.az.xs>0)&&decide ((n.data.xs.length:Int)=au n.az.xs)
 else if n.ai=3 then gW n true false false false false true true&&iI n.a at_&&decide (n.aQ.xs.length>0)&&decide (n.aQ.xs.length<=64)
 else if n.ai=4 then gW n true false true false false true true&&iI n.a at_&&decide (h_ n.az.xs>0)&&decide ((n.data.xs.length:Int)=h_ n.az.xs)&&decide ((n.aQ.xs.length:Int)=n.az.xs.getD 0 0)
 else if n.ai=5 then gW n true false false false true false false&&iI n.a at_&&decide (n.size>0)
 else if n.ai=6 then gW n true true false false false false false&&iI n.a at_&&iI n.b at_
 else if n.ai=7 then gW n true false false false false true false&&iI n.a at_&&decide (n.data.xs.length=1)
 else if n.ai=8 then gW n true false false false false true false&&iI n.a at_&&decide (n.data.xs.length=3)
 else if n.ai=9 then gW n true false true false false false false&&iI n.a at_&&decide (au n.az.xs>0)
 else false
theorem aeS(w:World)(n:ak)(hn:n.ok w)(at_:Int)(sv:Value):
 Calls Tryz.prog 58 #[nI n at_ sv] w λe w'=>e= .returned (.bool (cz n at_))/\Ext w w':=by
 obtain⟨a,hbase⟩:=lN hn.az;have hkl:= @Om n.az.xs;refine fH Tryz.func58 [.agg [aC n.ai,aC n.a,aC n.b,.c n.az.val,aC n.lo,aC n.hi,aC n.size,.c n.data.val,.c n.aQ.val,aC at_,.c sv]] ?_;repeat' ((conv=>whnf)<;>first|(show aJ _ 61 ..;refine aR (f:=61) Tryz.call61 _ (λρ w' hw=>nS w' n.az.base n.az.cap n.az.xs (ae hw λR h=>aH h hn.az.rows)) ?_)|(show aJ _ 114 ..;((refine jR (f:=114) Tryz.call114 _ (λρ w' hw=>SY w' n at_ sv _ _ _ _ _ _ _ rfl) ?_ ?_<;>intro hl)))|(show aJ _ 115 ..;((refine jR (f:=115) Tryz.call115 _ (λρ w' hw=>RZ w' n at_ sv _) ?_ ?_<;>intro ha)))|(show aJ _ 116 ..;refine aR (f:=116) Tryz.call116 _ (λρ w' hw=>aan w' n (ae hw λR h=>hn.az.later h) at_ sv) ?_)|(show jQ _ 114 ..;((refine sS (f:=114) Tryz.call114 _ (λρ w' hw=>SY w' n at_ sv _ _ _ _ _ _ _ rfl) ?_ ?_<;>intro hl)))|(show jQ _ 115 ..;((refine sS (f:=115) Tryz.call115 _ (λρ w' hw=>RZ w' n at_ sv _) ?_ ?_<;>intro ha)))|(show dn ..;refine aM a 0 (hbase aa) rfl aa ?_)|(show gZ ..;(refine bN (λR w' h=>by rw[<-hbase aa];exact aH h hn.az.rows) _ _ (acM aa) rfl ?_))|refine bV ?_|refine ag ?_ ?_<;>intro _)
 all_goals refine bq (λ_ _ h=>h) rfl ?_
 all_goals(unfold cz;repeat(first|rw[if_pos aa]|rw[if_neg aa]))
 all_goals simp only[*,anE,Bool.false_and,Bool.and_false,Bool.and_true,afF,ami,decide_eq_true_eq,decide_eq_false_iff_not]
 all_goals first|omega|simp|(simp;omega)
theorem Ot:∀(xs:List Int) (n:Int),1<=n->n<=64->0<=dX n xs/\dX n xs<=64
 |[],n,h1,h2=>⟨by simp only[dX];omega,by simpa only[dX]using h2⟩
 |d::r,n,h1,h2=>by
  simp only[dX];by_cases h:d<1\/d>64/n
  ·rw[if_pos h];omega
  ·rw[if_neg h];have h3:¬n*d>64:=λg=>h (.inr ((yf h1 aa).2 g));have h4:n*1<=n*d:=ai6 aa aa;exact Ot r (n*d) aa aa
theorem dN(xs:List Int):0<=au xs/\au xs<=64:=by
 unfold au;split
 ·omega
 ·exact Ot xs 1 aa aa
theorem Ij:∀(xs:List Int) (n:Int),1<=n->n<=64->0<dX n xs->∀x∈xs,1<=x/\x<=64
 |[],n,_,_,_,x,hx=>by simp at hx
 |d::r,n,h1,h2,h,x,hx=>by
  simp only[dX]at h;by_cases hc:d<1\/d>64/n
  ·rw[if_pos hc]at h;omega
  ·rw[if_neg hc]at h;have h3:¬n*d>64:=λg=>hc (.inr ((yf h1 aa).2 g));have h4:n*1<=n*d:=ai6 aa aa;have h5:1*d<=n*d:=ahi h1 aa;rcases abr.1 hx with rfl|hx
   ·omega
   ·exact Ij r (n*d) aa aa h x hx
theorem g_{xs:List Int}(h:0<au xs):1<=xs.length/\xs.length<=3/\∀x∈xs,1<=x/\x<=64:=by
 unfold au at h;by_cases hl:xs.length<1\/3<xs.length
 ·rw[if_pos hl]at h;omega
 ·rw[if_neg hl]at h;exact⟨by omega,by omega,Ij xs 1 aa aa h⟩
theorem H_:∀(xs:List Int) (n:Int),0<nE n xs->∀x∈xs,1<=x/\x<=64
 |[],_,_,x,hx=>by simp at hx
 |d::r,n,h,x,hx=>by
  simp only[nE]at h;by_cases hc:d<1\/d>64
  ·rw[if_pos hc]at h;omega
  ·rw[if_neg hc]at h;rcases abr.1 hx with rfl|hx
   ·omega
   ·exact H_ r (n*d) h x hx
theorem uu{xs:List Int}(h:0<h_ xs):xs.length=4/\∀x∈xs,1<=x/\x<=64:=by
 have h4:=Om h;unfold h_ at h;rw[if_pos h4]at h;exact⟨h4,H_ xs 1 h⟩
theorem cu{xs:List Int}{k:Nat}(h:k<xs.length):xs.getD k 0∈xs:=by
 simp[List.getD,h]
theorem WV{a b c:Int}(ha:1<=a)(hb:1<=b)(hc:1<=c)(h:a*b*c<=64):0<au [a,b,c]:=by
 have e:au [a,b,c]=dX 1 [a,b,c]:=by unfold au;rw[if_neg aI]
 have h1:1<=a*b:=by have:=ag8 ha hb aa aa;omega
 have h2:a*b*1<=a*b*c:=ai6 hc aa;have h3:a*1<=a*b:=ai6 hb aa;have t1:¬(a<1\/a>64/1):=by
  rintro(g|g)
  ·omega
  ·have:=(yf (n:=1) aa ha).1 g;omega
 have t2:¬(b<1\/b>64/(1*a)):=by
  rintro(g|g)
  ·omega
  ·have:=(yf (n:=1*a) aa hb).1 g;rw[age]at this;omega
 have t3:¬(c<1\/c>64/(1*a*b)):=by
  rintro(g|g)
  ·omega
  ·have:=(yf (n:=1*a*b) (by rw[age];omega) hc).1 g;rw[age]at this;omega
 rw[e];simp only[dX];rw[if_neg t1,if_neg t2,if_neg t3,age];omega
theorem Eu{a b c:Int}(h:0<au [a,b,c]):1<=a/\1<=b/\1<=c/\a*b*c<=64:=by
 have hd:=(g_ h).2.2;have ha:=hd a aI;have hb:=hd b aI;have hc:=hd c aI;have e:au [a,b,c]=dX 1 [a,b,c]:=by unfold au;rw[if_neg aI]
 rw[e]at h;simp only[dX]at h;by_cases t1:a<1\/a>64/1
 ·rw[if_pos t1]at h;omega
 rw[if_neg t1]at h;by_cases t2:b<1\/b>64/(1*a)
 ·rw[if_pos t2]at h;omega
 rw[if_neg t2]at h;by_cases t3:c<1\/c>64/(1*a*b)
 ·rw[if_pos t3]at h;omega
 have hab:1<=a*b:=by have:=ag8 ha.1 hb.1 aa aa;omega
 have:¬(1*a*b*c>64):=λg=>t3 (.inr ((yf (by rw[age];exact hab) hc.1).2 g));rw[age]at this;exact⟨ha.1,hb.1,hc.1,by omega⟩
theorem VM{a:Int}(h1:1<=a)(h2:a<=64):0<au [a]:=by
 have e:au [a]=dX 1 [a]:=by unfold au;rw[if_neg aI]
 rw[e];simp only[dX];have t1:¬(a<1\/a>64/1):=by
  rintro(g|g)
  ·omega
  ·have:=(yf (n:=1) aa h1).1 g;omega
 rw[if_neg t1];omega
def bP(n:ak)(sh:List (List Int)):Option (List Int):=
 if n.ai=1\/n.ai=2 then some n.az.xs
 else if n.ai=3 then(if(n.data.xs.length:Int)=n.aQ.xs.length*au (sh.getD n.a.toNat [])then some [(n.aQ.xs.length:Int)]else none)
 else if n.ai=4 then
  (if(sh.getD n.a.toNat []).length≠3\/(sh.getD n.a.toNat []).getD 0 0≠n.az.xs.getD 1 0\/(sh.getD n.a.toNat []).getD 1 0<n.az.xs.getD 2 0\/(sh.getD n.a.toNat []).getD 2 0<n.az.xs.getD 3 0 then none
   else if 0<au [n.az.xs.getD 0 0,(sh.getD n.a.toNat []).getD 1 0-n.az.xs.getD 2 0+1,(sh.getD n.a.toNat []).getD 2 0-n.az.xs.getD 3 0+1]then some [n.az.xs.getD 0 0,(sh.getD n.a.toNat []).getD 1 0-n.az.xs.getD 2 0+1,(sh.getD n.a.toNat []).getD 2 0-n.az.xs.getD 3 0+1]else none)
 else if n.ai=5 then
  (if(sh.getD n.a.toNat []).length≠3\/(sh.getD n.a.toNat []).getD 1 0%n.size≠0\/(sh.getD n.a.toNat []).getD 2 0%n.size≠0 then none
   else some [(sh.getD n.a.toNat []).getD 0 0,(sh.getD n.a.toNat []).getD 1 0/n.size,(sh.getD n.a.toNat []).getD 2 0/n.size])
 else if n.ai=6 then(if sh.getD n.a.toNat []=sh.getD n.b.toNat []then some (sh.getD n.a.toNat [])else none)
 else if n.ai=9 then(if au n.az.xs=au (sh.getD n.a.toNat [])then some n.az.xs else none)
 else some (sh.getD n.a.toNat [])
structure Ac(n:ak)(at_:Nat):Prop where
 a:n.ai≠1->n.ai≠2->0<=n.a/\n.a<at_
 b:n.ai=6->0<=n.b/\n.b<at_
 own:n.ai=1\/n.ai=2\/n.ai=9->0<au n.az.xs
 aQ:n.ai=3->1<=n.aQ.xs.length/\n.aQ.xs.length<=64
 acS:n.ai=4->0<h_ n.az.xs
 pool:n.ai=5->0<n.size
 ai:1<=n.ai/\n.ai<=9
theorem dJ{n:ak}{at_:Nat}(h:cz n at_=true):Ac n at_:=by
 unfold cz at h;have hk:n.ai=1\/n.ai=2\/n.ai=3\/n.ai=4\/n.ai=5\/n.ai=6\/n.ai=7\/n.ai=8\/n.ai=9\/¬(n.ai=1\/n.ai=2\/n.ai=3\/n.ai=4\/n.ai=5\/n.ai=6\/n.ai=7\/n.ai=8\/n.ai=9):=by omega
 rcases hk with hk|hk|hk|hk|hk|hk|hk|hk|hk|hk
 all_goals repeat(first|rw[if_pos aa]at h|rw[if_neg aa]at h)
 all_goals try simp only[afF,decide_eq_true_eq,iI]at h
 ·exact⟨by omega,by omega,by omega,by omega,by omega,by omega,by omega⟩
 ·exact⟨by omega,by omega,by omega,by omega,by omega,by omega,by omega⟩
 ·exact⟨by omega,by omega,by omega,by omega,by omega,by omega,by omega⟩
 ·exact⟨by omega,by omega,by omega,by omega,by omega,by omega,by omega⟩
 ·exact⟨by omega,by omega,by omega,by omega,by omega,by omega,by omega⟩
 ·exact⟨by omega,by omega,by omega,by omega,by omega,by omega,by omega⟩
 ·exact⟨by omega,by omega,by omega,by omega,by omega,by omega,by omega⟩
 ·exact⟨by omega,by omega,by omega,by omega,by omega,by omega,by omega⟩
 ·exact⟨by omega,by omega,by omega,by omega,by omega,by omega,by omega⟩
 ·cases h
theorem ac6{sh:List (List Int)}(hg:∀s∈sh,0<au s){i:Int}(h0:0<=i)(h1:i<sh.length):0<au (sh.getD i.toNat []):=by
 have hi:i.toNat<sh.length:=by omega
 have:sh.getD i.toNat []=sh[i.toNat]:=by simp[List.getD,hi]
 rw[this];exact hg _ (aby hi)
theorem adL{xs:List Int}(h:xs.length=3):xs=[xs.getD 0 0,xs.getD 1 0,xs.getD 2 0]:=by
 match xs,h with
 |[a,b,c],_=>rfl
theorem jG{n:ak}{sh r:List (List Int)}{s:List Int}(hf:Ac n sh.length)(hg:∀s∈sh,0<au s)(h:bP n sh=some s)(_hr:r=sh):0<au s:=by
 unfold bP at h;by_cases h12:n.ai=1\/n.ai=2
 ·rw[if_pos h12]at h;cases h;exact hf.own aa
 rw[if_neg h12]at h;have ha:=hf.a aa aa;have hga:=ac6 hg ha.1 ha.2;by_cases h3:n.ai=3
 ·rw[if_pos h3]at h;split at h
  ·cases h;have:=hf.aQ h3;exact VM aa aa
  ·cases h
 rw[if_neg h3]at h;by_cases h4:n.ai=4
 ·rw[if_pos h4]at h;split at h
  ·cases h
  ·split at h
   ·cases h;assumption
   ·cases h
 rw[if_neg h4]at h;by_cases h5:n.ai=5
 ·rw[if_pos h5]at h;split at h
  ·cases h
  ·rename_i hn;cases h
   have hs:=hf.pool h5;generalize sh.getD n.a.toNat []=a at*;have hl:a.length=3:=by omega
   rw[adL hl]at hga;obtain⟨p0,p1,p2,p3⟩:=Eu hga;have d1:n.size∣a.getD 1 0:=Int.dvd_of_emod_eq_zero aa;have d2:n.size∣a.getD 2 0:=Int.dvd_of_emod_eq_zero aa;have q1:1<=a.getD 1 0/n.size:=by
    have:=Int.ediv_mul_cancel d1;have h0:0<=a.getD 1 0/n.size:=amv aa aa;by_cases g:0<a.getD 1 0/n.size
    ·omega
    ·have e:a.getD 1 0/n.size=0:=by omega
     rw[e]at this;omega
   have q2:1<=a.getD 2 0/n.size:=by
    have:=Int.ediv_mul_cancel d2;have h0:0<=a.getD 2 0/n.size:=amv aa aa;by_cases g:0<a.getD 2 0/n.size
    ·omega
    ·have e:a.getD 2 0/n.size=0:=by omega
     rw[e]at this;omega
   have l1:a.getD 1 0/n.size<=a.getD 1 0:=aku _ aa;have l2:a.getD 2 0/n.size<=a.getD 2 0:=aku _ aa;have m1:a.getD 0 0*(a.getD 1 0/n.size)<=a.getD 0 0*a.getD 1 0:=ai6 l1 aa;have m0:0<=a.getD 0 0*a.getD 1 0:=agJ aa aa;have m2:a.getD 0 0*(a.getD 1 0/n.size)*(a.getD 2 0/n.size)<=a.getD 0 0*a.getD 1 0*a.getD 2 0:=ag8 m1 l2 aa m0;exact WV p0 q1 q2 aa
 rw[if_neg h5]at h;by_cases h6:n.ai=6
 ·rw[if_pos h6]at h;split at h
  ·cases h;exact hga
  ·cases h
 rw[if_neg h6]at h;by_cases h9:n.ai=9
 ·rw[if_pos h9]at h;split at h
  ·cases h;exact hf.own aa
  ·cases h
 rw[if_neg h9]at h;cases h;exact hga
section
structure ax.bF(v:ax):Prop where
 fits:∀x∈v.xs,-9223372036854775808<=x/\x<=9223372036854775807
 room:v.xs.length<=v.cap
 few:v.xs.length<=1000000
theorem ax.ok.bF{w:World}{v:ax}(h:v.ok w):v.bF:=⟨h.fits,h.room,h.few⟩
def bX(v:ax):bR:=f_ v.base 1 (aZ v.xs)
theorem dw{v:ax}{R:Nat->Prop}{w:World}(hs:v.bF)(h:(bX v).holds R w):v.ok w:=⟨bf h,hs.fits,hs.room,hs.few⟩
abbrev Oi(N:Nat)(v:ax):bR:=(bX v).past N
theorem vv{w w':World}{v:Value}{xs:List Int}(h:je w w' v 1 3 (aZ xs))(hf:∀x∈xs,-9223372036854775808<=x/\x<=9223372036854775807)(hl:xs.length<=1000000):
 ∃u:ax,v=u.val/\u.xs=xs/\u.bF/\(bX u).holds (λb=>w.heap.size<=b/\b<w'.heap.size) w':=by
 obtain⟨base,cap,e,h1⟩:=ig h;obtain⟨l,e2,F,hF,hr,hcap,_⟩:=h;rw[e2]at e;simp only[Value.slice.injEq]at e;obtain⟨e3,_,e4⟩:=e;refine⟨⟨base,cap,xs⟩,?_,rfl,⟨hf,?_,hl⟩,h1⟩
 ·rw[e2,e3,e4];simp[ax.val,aP]
 ·rw[<-e4];simpa[aP]using hcap
def jV(w:World)(n:ak)(l:List ax)(r:Option (List Int))(e:Ending)(w':World):Prop:=
 ∃(v:Value) (ok:Bool),e= .returned (.tuple #[v,.bool ok])/\Ext w w'/\ok=r.isSome/\
  ∀xs,r=some xs->∃u:ax,v=u.val/\u.xs=xs/\(u=n.az\/u∈l\/(u.bF/\(bX u).holds (λb=>w.heap.size<=b/\b<w'.heap.size) w'))
section
variable {B:Base} {H:Heap} {S:bR} {nx:Nat} {w:World} {n:ak} {l:List ax} {r:Option (List Int)}
theorem vX(u:ax)(hb:∀R w',S.holds R w'->(aU B.w0).holds R w')(hw0:B.w0=w)(hu:u=n.az\/u∈l)(hr:r=some u.xs):jS B (.xg [.c u.val,.c (.bool true)]) H S nx (jV w n l r):=by
 subst hw0 hr;exact dK λρ w' hw=>⟨_,true,rfl,bG hw hb,rfl,λxs h=>⟨u,rfl,by simpa using h,hu.elim .inl λh=> .inr (.inl h)⟩⟩
theorem vw{v:SV}(hb:∀R w',S.holds R w'->(aU B.w0).holds R w')(hw0:B.w0=w)(hr:r=none):jS B (.xg [v,.c (.bool false)]) H S nx (jV w n l r):=by
 subst hw0 hr;exact dK λρ w' hw=>⟨_,false,rfl,bG hw hb,rfl,λxs h=>by cases h⟩
theorem Nr{i m:Nat}{xs:List Int}(hb:∀R w',S.holds R w'->(aU B.w0).holds R w')(hw0:B.w0=w)(he:(i,b_.rows (aZ xs) 1 3)∈H)(hm:m=xs.length)(hf:∀x∈xs,-9223372036854775808<=x/\x<=9223372036854775807)(hl:xs.length<=1000000)(hr:r=some xs):
 jS B (.xg [.os i m,.c (.bool true)]) H S nx (jV w n l r):=by
 subst hw0 hr hm;refine dK λρ w' hw=> ?_;have hn:=fI hw hb he;rw[aP]at hn;obtain⟨u,h1,h2,h3,h4⟩:=vv hn hf hl;exact⟨_,true,rfl,bG hw hb,rfl,λys h=>⟨u,h1,by rw[h2];simpa using h,.inr (.inr ⟨h3,h4⟩)⟩⟩
end
theorem vI(w:World)(s:ax)(h:s.ok w):Calls Tryz.prog 61 #[s.val] w λe w'=>e= .returned (.int .i64 (au s.xs))/\Ext w w':=nS w s.base s.cap s.xs h.rows
theorem aki(w:World)(n:ak)(at_:Int)(sv:aY)(hs:sv.ok w)(i:Nat)(s:ax)(hi:sv.l[i]? =some s)(ha:n.a=i):
 Calls Tryz.prog 117 #[nI n at_ sv.val] w (jV w n sv.l (some s.xs)):=by
 refine fH Tryz.func117 [.agg [aC n.ai,aC n.a,aC n.b,.c n.az.val,aC n.lo,aC n.hi,aC n.size,.c n.data.val,.c n.aQ.val,aC at_,.c sv.val]] ?_;repeat' ((conv=>whnf)<;>first|refine Ab ?_|refine a_ ?_)
 exact vX s (λ_ _ h=>h) rfl (.inr (adu hi)) rfl
theorem akG(w:World)(n:ak)(at_:Int)(sv:aY):
 Calls Tryz.prog 118 #[nI n at_ sv.val] w (jV w n sv.l (some n.az.xs)):=by
 refine fH Tryz.func118 [.agg [aC n.ai,aC n.a,aC n.b,.c n.az.val,aC n.lo,aC n.hi,aC n.size,.c n.data.val,.c n.aQ.val,aC at_,.c sv.val]] ?_;repeat' ((conv=>whnf)<;>first|refine a_ ?_)
 exact vX n.az (λ_ _ h=>h) rfl (.inl rfl) rfl
theorem ajz(w:World)(n:ak)(hn:n.ok w)(at_:Int)(sv:aY)(hs:sv.ok w)(i:Nat)(s:ax)(hi:sv.l[i]? =some s)(ha:n.a=i):
 Calls Tryz.prog 123 #[nI n at_ sv.val] w (jV w n sv.l (if au n.az.xs=au s.xs then some n.az.xs else none)):=by
 have hso:=hs.each s (adu hi);refine fH Tryz.func123 [.agg [aC n.ai,aC n.a,aC n.b,.c n.az.val,aC n.lo,aC n.hi,aC n.size,.c n.data.val,.c n.aQ.val,aC at_,.c sv.val]] ?_;repeat' ((conv=>whnf)<;>first|refine O_ ?_|(show jQ _ 61 [.c n.az.val] ..;refine jo (f:=61) Tryz.call61 _ (λρ w' hw=>vI w' n.az (ae hw λR h=>hn.az.later h)) ?_)|(show jQ _ 61 [.c s.val] ..;refine jo (f:=61) Tryz.call61 _ (λρ w' hw=>vI w' s (ae hw λR h=>hso.later h)) ?_)|refine bV ?_|refine ag ?_ ?_<;>intro _)
 ·rename_i h;rw[if_pos h];exact vX n.az (λ_ _ h=>h) rfl (.inl rfl) rfl
 ·rename_i h;rw[if_neg h];exact vw (λ_ _ h=>h) rfl rfl
theorem ame(w:World)(n:ak)(at_:Int)(sv:aY)(hs:sv.ok w)(i j:Nat)(s t:ax)(hi:sv.l[i]? =some s)(ha:n.a=i)(hj:sv.l[j]? =some t)(hb:n.b=j):
 Calls Tryz.prog 122 #[nI n at_ sv.val] w (jV w n sv.l (if s.xs=t.xs then some s.xs else none)):=by
 have hso:=hs.each s (adu hi);have hto:=hs.each t (adu hj);obtain⟨hjl,hjt⟩:=abH.1 hj;have hr:(bA sv.l)[j]? =some [t.val]:=by rw[fQ hjl,hjt]
 obtain⟨a,hb'⟩:∃a,sv.base=some a:=aT (j:=j) hs.rows (by rw[acN];exact hjl);refine fH Tryz.func122 [.agg [aC n.ai,aC n.a,aC n.b,.c n.az.val,aC n.lo,aC n.hi,aC n.size,.c n.data.val,.c n.aQ.val,aC at_,.c sv.val]] ?_;repeat' ((conv=>whnf)<;>first|refine O_ ?_|(show dn ..;refine aM a j hb' hb hjl ?_)|(show gZ ..;(refine bN (λR w' h=>by rw[<-hb'];exact aH h hs.rows) _ _ hr rfl ?_))|(show jQ _ 62 ..;((refine sS (f:=62) Tryz.call62 _ (λρ w' hw=>tK w' s t (ae hw λR h=>hso.later h) (ae hw λR h=>hto.later h)) ?_ ?_<;>intro he)))|refine bV ?_)
 ·rw[if_pos (of_decide_eq_true he)];exact vX s (λ_ _ h=>h) rfl (.inr (adu hi)) rfl
 ·rw[if_neg (of_decide_eq_false he)];exact vw (λ_ _ h=>h) rfl rfl
end
abbrev alO:DT:=(bS [0,1,2,3,5,6,7,8,9,10,11,12,13] (.alt 4 (bS [114,115,16,17,18,19] .done) (.one 14 (.alt 4 (bS [115,16,17,18,19] .done) (bS [115,16,17,104,18,19] .done)))))
abbrev alr:DT:=(bS [0,1,2,3,4,5,6,7,8,9,10,11,12,13,14,15,16,117,18,19] .done)
abbrev ali:DT:=(bS [0,1,2,3,4,5,6,7,8,9,10,11,12,13,14,15,16,17,18,19,20,21,22,23,24,125,26] .done)
theorem aia(w:World)(n:ak)(hn:n.ok w)(at_:Int)(sv:aY)(hs:sv.ok w)(i:Nat)(s:ax)(hi:sv.l[i]? =some s)(ha:n.a=i)(hbi:n.aQ.xs.length<=64):
 Calls Tryz.prog 119 #[nI n at_ sv.val] w (jV w n sv.l (if(n.data.xs.length:Int)=n.aQ.xs.length*au s.xs then some [(n.aQ.xs.length:Int)]else none)):=by
 have hso:=hs.each s (adu hi);have hm:0<=(n.aQ.xs.length:Int)*au s.xs/\(n.aQ.xs.length:Int)*au s.xs<=4096:=by
  have h1:=dN s.xs;have h2:(n.aQ.xs.length:Int)*au s.xs<=64*64:=ag8 aa h1.2 h1.1 aa;have h3:0<=(n.aQ.xs.length:Int)*au s.xs:=agJ aa h1.1;omega
 refine fH Tryz.func119 [.agg [aC n.ai,aC n.a,aC n.b,.c n.az.val,aC n.lo,aC n.hi,aC n.size,.c n.data.val,.c n.aQ.val,aC at_,.c sv.val]] ?_;repeat' ((conv=>whnf)<;>first|refine Ab ?_|(show aJ _ 61 ..;refine aR (f:=61) Tryz.call61 _ (λρ w' hw=>vI w' s (ae hw λR h=>hso.later h)) ?_)|(show cO _ 1 ..;refine mV [] _ alO ?_)|refine a_ ?_|refine ag ?_ ?_<;>intro _|refine And.intro ?_ ?_)
 all_goals first
  |(rw[if_pos aa];exact Nr (λ_ _ h=>h) rfl YV rfl Pp aI rfl)
  |(rw[if_neg aa];exact vw (λ_ _ h=>h) rfl rfl)
theorem ax.ok.at_{w:World}{v:ax}{a:Addr}(h:v.ok w)(ha:v.base=some a):∀(R:Nat->Prop) w',(aU w).holds R w'->bE w' (some a) 1 (aZ v.xs):=λR w' hb=>by rw[<-ha];exact aH hb h.rows
theorem mem3{p:Int->Prop}{a b c:Int}(ha:p a)(hb:p b)(hc:p c):∀x∈[a,b,c],p x:=by
 intro x hx;simp only[abr,aiF,or_false]at hx;rcases hx with rfl|rfl|rfl<;>assumption
theorem ajJ(w:World)(n:ak)(hn:n.ok w)(at_:Int)(sv:aY)(hs:sv.ok w)(i:Nat)(s:ax)(hi:sv.l[i]? =some s)(ha:n.a=i)(hz:0<n.size)(hg:0<au s.xs):
 Calls Tryz.prog 121 #[nI n at_ sv.val] w (jV w n sv.l (if s.xs.length≠3\/s.xs.getD 1 0%n.size≠0\/s.xs.getD 2 0%n.size≠0 then none else some [s.xs.getD 0 0,s.xs.getD 1 0/n.size,s.xs.getD 2 0/n.size])):=by
 have hso:=hs.each s (adu hi);obtain⟨hl1,hl3,hd⟩:=g_ hg;obtain⟨a,hb⟩:=hso.base aa;have hd0:0<s.xs.length->1<=s.xs.getD 0 0/\s.xs.getD 0 0<=64:=λh=>hd _ (cu h);have hd1:1<s.xs.length->1<=s.xs.getD 1 0/\s.xs.getD 1 0<=64:=λh=>hd _ (cu h);have hd2:2<s.xs.length->1<=s.xs.getD 2 0/\s.xs.getD 2 0<=64:=λh=>hd _ (cu h);have hq1:1<s.xs.length->0<=s.xs.getD 1 0/n.size/\s.xs.getD 1 0/n.size<=64:=λh=>⟨amv aa aa,aha (aku _ aa) aa⟩;have hq2:2<s.xs.length->0<=s.xs.getD 2 0/n.size/\s.xs.getD 2 0/n.size<=64:=λh=>⟨amv aa aa,aha (aku _ aa) aa⟩;refine fH Tryz.func121 [.agg [aC n.ai,aC n.a,aC n.b,.c n.az.val,aC n.lo,aC n.hi,aC n.size,.c n.data.val,.c n.aQ.val,aC at_,.c sv.val]] ?_;repeat' ((conv=>whnf)<;>first|refine Ab ?_|(show dn ..;refine aM _ 0 hb rfl aa ?_)|(show gZ ..;refine dP (hso.at_ hb) (j:=0) aa ?_)|(show dn ..;refine aM _ 1 hb rfl aa ?_)|(show gZ ..;refine dP (hso.at_ hb) (j:=1) aa ?_)|(show dn ..;refine aM _ 2 hb rfl aa ?_)|(show gZ ..;refine dP (hso.at_ hb) (j:=2) aa ?_)|refine mG ?_|refine pK ?_|(show cO _ 4 ..;refine mV [] _ alr ?_)|refine bV ?_|refine ag ?_ ?_<;>intro _)
 all_goals first
  |(rw[if_neg aa];exact Nr (λ_ _ h=>h) rfl YV rfl (mem3 aa aa aa) aI rfl)
  |(rw[if_pos aa];exact vw (λ_ _ h=>h) rfl rfl)
theorem ajT(w:World)(n:ak)(hn:n.ok w)(at_:Int)(sv:aY)(hs:sv.ok w)(i:Nat)(s:ax)(hi:sv.l[i]? =some s)(ha:n.a=i)(hk:0<h_ n.az.xs)(hg:0<au s.xs):
 Calls Tryz.prog 120 #[nI n at_ sv.val] w (jV w n sv.l (
  if s.xs.length≠3\/s.xs.getD 0 0≠n.az.xs.getD 1 0\/s.xs.getD 1 0<n.az.xs.getD 2 0\/s.xs.getD 2 0<n.az.xs.getD 3 0 then none
  else if 0<au [n.az.xs.getD 0 0,s.xs.getD 1 0-n.az.xs.getD 2 0+1,s.xs.getD 2 0-n.az.xs.getD 3 0+1]then some [n.az.xs.getD 0 0,s.xs.getD 1 0-n.az.xs.getD 2 0+1,s.xs.getD 2 0-n.az.xs.getD 3 0+1]else none)):=by
 have hso:=hs.each s (adu hi);obtain⟨hl1,hl3,hd⟩:=g_ hg;obtain⟨a,hb⟩:=hso.base aa;obtain⟨hk4,hkd⟩:=uu hk;obtain⟨c,hc⟩:=hn.az.base aa;have hd0:0<s.xs.length->1<=s.xs.getD 0 0/\s.xs.getD 0 0<=64:=λh=>hd _ (cu h);have hd1:1<s.xs.length->1<=s.xs.getD 1 0/\s.xs.getD 1 0<=64:=λh=>hd _ (cu h);have hd2:2<s.xs.length->1<=s.xs.getD 2 0/\s.xs.getD 2 0<=64:=λh=>hd _ (cu h);have hk0:=hkd _ (cu (k:=0) aa);have hk1:=hkd _ (cu (k:=1) aa);have hk2:=hkd _ (cu (k:=2) aa);have hk3:=hkd _ (cu (k:=3) aa);refine fH Tryz.func120 [.agg [aC n.ai,aC n.a,aC n.b,.c n.az.val,aC n.lo,aC n.hi,aC n.size,.c n.data.val,.c n.aQ.val,aC at_,.c sv.val]] ?_;repeat' ((conv=>whnf)<;>first|refine Ab ?_|(show dn ..;refine aM _ 0 hb rfl aa ?_)|(show gZ ..;refine dP (hso.at_ hb) (j:=0) aa ?_)|(show dn ..;refine aM _ 1 hb rfl aa ?_)|(show gZ ..;refine dP (hso.at_ hb) (j:=1) aa ?_)|(show dn ..;refine aM _ 2 hb rfl aa ?_)|(show gZ ..;refine dP (hso.at_ hb) (j:=2) aa ?_)|(show dn ..;refine aM _ 0 hc rfl aa ?_)|(show gZ ..;refine dP (hn.az.at_ hc) (j:=0) aa ?_)|(show dn ..;refine aM _ 1 hc rfl aa ?_)|(show gZ ..;refine dP (hn.az.at_ hc) (j:=1) aa ?_)|(show dn ..;refine aM _ 2 hc rfl aa ?_)|(show gZ ..;refine dP (hn.az.at_ hc) (j:=2) aa ?_)|(show dn ..;refine aM _ 3 hc rfl aa ?_)|(show gZ ..;refine dP (hn.az.at_ hc) (j:=3) aa ?_)|(show aJ _ 61 ..;refine aR (f:=61) Tryz.call61 _ (λρ w' hw=>nS w' (ρ 1).base (ρ 1).cap [n.az.xs.getD 0 0,s.xs.getD 1 0-n.az.xs.getD 2 0+1,s.xs.getD 2 0-n.az.xs.getD 3 0+1] (eZ hw YV)) ?_)|(show cO _ 4 ..;refine mV [] _ ali ?_)|refine bV ?_|refine ag ?_ ?_<;>intro _)
 all_goals first
  |(rw[if_neg aa,if_pos aa];exact Nr (λ_ _ h=>h) rfl YV rfl (mem3 aa aa aa) aI rfl)
  |(rw[if_neg aa,if_neg aa];exact vw (λ_ _ h=>h) rfl rfl)
  |(rw[if_pos aa];exact vw (λ_ _ h=>h) rfl rfl)
section
variable {H:Heap} {S:bR} {nx:Nat} {l:List ax} {r:Option (List Int)}
theorem oH{cx:Cx}{f:FuncId}{args:List SV}{K:SV->Heap->bR->Nat->Prop}{n:ak}(R0:Option (List Int))(hf:∀ar w,(callFunc f ar).run cx.P w= .ok (.enter f ar) w)(hr:R0=r)
 (hc:∀ρ w',dO cx.B ρ nx H S w'->Calls cx.P f (SV.dW ρ args).toArray w' (jV w' n l r))
 (h0:R0=none->∀v,K (.c (.tuple #[v,.bool false])) H S nx)
 (h1:∀u:ax,R0=some u.xs->(u=n.az\/u∈l)->K (.c (.tuple #[u.val,.bool true])) H S nx)
 (h2:∀u:ax,R0=some u.xs->u.bF->K (.c (.tuple #[u.val,.bool true])) H (S.and (Oi cx.B.w0.heap.size u)) nx):aJ cx f args H S nx K:=by
 subst hr;rw[fZ];refine⟨hf,λρ w hw=>(hc ρ w hw).mono ?_⟩;rintro e w' ⟨v,ok,rfl,he,hok,hv⟩;cases hr:R0 with
 |none=>
  rw[hr]at hok;obtain rfl:ok=false:=hok;exact⟨.c (.tuple #[v,.bool false]),ρ,H,S,nx,rfl,λ_ _=>rfl,Tw _,SV.iW _,hw.ext he,h0 hr v⟩
 |some xs=>
  rw[hr]at hok;obtain rfl:ok=true:=hok;obtain⟨u,rfl,hu,hcase⟩:=hv xs hr;rw[<-hu]at hr;rcases hcase with hcase|hcase|⟨xz,hnew⟩
  ·exact⟨.c (.tuple #[u.val,.bool true]),ρ,H,S,nx,rfl,λ_ _=>rfl,Tw _,SV.iW _,hw.ext he,h1 u hr (.inl hcase)⟩
  ·exact⟨.c (.tuple #[u.val,.bool true]),ρ,H,S,nx,rfl,λ_ _=>rfl,Tw _,SV.iW _,hw.ext he,h1 u hr (.inr hcase)⟩
  ·refine⟨.c (.tuple #[u.val,.bool true]),ρ,H,S.and (Oi cx.B.w0.heap.size u),nx,rfl,λ_ _=>rfl,Tw _,SV.iW _,?_,h2 u hr xz⟩;obtain⟨R,φ,lF⟩:=hw;have uY:=lF.step (Step.I8 he) (λ_ _ h=>h) (λ_ _ _ _ h=>h);refine⟨λb=>R b\/(w.heap.size<=b/\b<w'.heap.size),φ,uY.os,uY.tape,uY.output,uY.size,uY.pin,λb hb=>hb.elim (uY.ro b) (λh=>h.2),⟨S.stable (λ_ h=> .inl h) (λ_ _=>rfl) uY.qL,?_⟩,uY.key,uY.jA,λp hp b hb hb'=> ?_,uY.sep⟩
   ·exact(bX u).stable (λb hb=>⟨.inr hb,aiC lF.size hb.1⟩) (λ_ _=>rfl) hnew
   ·rcases hb' with hb'|hb'
    ·exact uY.apart p hp b hb hb'
    ·have:=b_.size (lF.jA p hp) hb;omega
theorem J3{B:Base}{w:World}{n:ak}(u:ax)(hb:∀R w',S.holds R w'->(aU B.w0).holds R w')(hw0:B.w0=w)(hs:u.bF)(hr:r=some u.xs):
 jS B (.xg [.c u.val,.c (.bool true)]) H (S.and (Oi B.w0.heap.size u)) nx (jV w n l r):=by
 subst hw0 hr;refine dK λρ w' hw=>⟨_,true,rfl,bG hw (λR w' h=>hb R w' h.1),rfl,λxs h=>⟨u,rfl,by simpa using h,.inr (.inr ⟨hs,?_⟩)⟩⟩;obtain⟨R,φ,hw⟩:=hw;exact(bX u).stable (λb hb=>⟨hb.2,hw.ro b hb.1⟩) (λ_ _=>rfl) hw.qL.2
theorem adI(w:World)(n:ak)(hn:n.ok w)(at_:Int)(sv:aY)(hs:sv.ok w)(hf:Ac n sv.l.length)(hg:∀s∈sv.l,0<au s.xs):
 Calls Tryz.prog 59 #[nI n at_ sv.val] w (jV w n sv.l (bP n (sv.l.map (·.xs)))):=by
 by_cases h12:n.ai=1\/n.ai=2
 ·have hsp:bP n (sv.l.map (·.xs))=some n.az.xs:=by unfold bP;rw[if_pos h12]
  refine fH Tryz.func59 [.agg [aC n.ai,aC n.a,aC n.b,.c n.az.val,aC n.lo,aC n.hi,aC n.size,.c n.data.val,.c n.aQ.val,aC at_,.c sv.val]] ?_;repeat' ((conv=>whnf)<;>first|(show aJ _ 118 ..;(refine oH (f:=118) (n:=n) (l:=sv.l) (bP n (sv.l.map (·.xs))) Tryz.call118 hsp (λρ w' hw=>akG w' n at_ sv) ?_ ?_ ?_<;>intros))|refine a_ ?_|refine ag ?_ ?_<;>intro _)
  all_goals first
   |exact vw (λ_ _ h=>h) rfl fw
   |exact vX _ (λ_ _ h=>h) rfl fw fw
   |exact J3 _ (λ_ _ h=>h) rfl fw fw
 ·obtain⟨ha0,ha1⟩:=hf.a aa aa;obtain⟨i,hia⟩:=amo ha0;have hil:i<sv.l.length:=by omega
  obtain⟨s,hi⟩:∃s,sv.l[i]? =some s:=⟨_,YL hil⟩;have hA:(sv.l.map (·.xs)).getD n.a.toNat []=s.xs:=by rw[hia];simp[List.getD,hi]
  have hgs:=hg s (adu hi);by_cases h6:n.ai=6
  ·obtain⟨hb0,hb1⟩:=hf.b h6;obtain⟨j,hjb⟩:=amo hb0;have hjl:j<sv.l.length:=by omega
   obtain⟨t,hj⟩:∃t,sv.l[j]? =some t:=⟨_,YL hjl⟩;have hB:(sv.l.map (·.xs)).getD n.b.toNat []=t.xs:=by rw[hjb];simp[List.getD,hj]
   have hsp:bP n (sv.l.map (·.xs))=if s.xs=t.xs then some s.xs else none:=by
    unfold bP;simp only[hA,hB];repeat(first|rw[if_pos aa]|rw[if_neg aa])
   refine fH Tryz.func59 [.agg [aC n.ai,aC n.a,aC n.b,.c n.az.val,aC n.lo,aC n.hi,aC n.size,.c n.data.val,.c n.aQ.val,aC at_,.c sv.val]] ?_;repeat' ((conv=>whnf)<;>first|(show aJ _ 122 ..;(refine oH (f:=122) (n:=n) (l:=sv.l) (bP n (sv.l.map (·.xs))) Tryz.call122 hsp (λρ w' hw=>ame w' n at_ sv (ae hw λR h=>hs.later h) i j s t hi hia hj hjb) ?_ ?_ ?_<;>intros))|refine a_ ?_|refine ag ?_ ?_<;>intro _)
   all_goals first
    |exact vw (λ_ _ h=>h) rfl fw
    |exact vX _ (λ_ _ h=>h) rfl fw fw
    |exact J3 _ (λ_ _ h=>h) rfl fw fw
  ·refine fH Tryz.func59 [.agg [aC n.ai,aC n.a,aC n.b,.c n.az.val,aC n.lo,aC n.hi,aC n.size,.c n.data.val,.c n.aQ.val,aC at_,.c sv.val]] ?_;repeat' ((conv=>whnf)<;>first|(show aJ _ 117 ..;(refine oH (f:=117) (n:=n) (l:=sv.l) (bP n (sv.l.map (·.xs))) Tryz.call117 wF (λρ w' hw=>aki w' n at_ sv (ae hw λR h=>hs.later h) i s hi hia) ?_ ?_ ?_<;>intros))|(show aJ _ 119 ..;(refine oH (f:=119) (n:=n) (l:=sv.l) (bP n (sv.l.map (·.xs))) Tryz.call119 wF (λρ w' hw=>aia w' n (ae hw λR h=>hn.later h) at_ sv (ae hw λR h=>hs.later h) i s hi hia (hf.aQ aa).2) ?_ ?_ ?_<;>intros))|(show aJ _ 120 ..;(refine oH (f:=120) (n:=n) (l:=sv.l) (bP n (sv.l.map (·.xs))) Tryz.call120 wF (λρ w' hw=>ajT w' n (ae hw λR h=>hn.later h) at_ sv (ae hw λR h=>hs.later h) i s hi hia (hf.acS aa) hgs) ?_ ?_ ?_<;>intros))|(show aJ _ 121 ..;(refine oH (f:=121) (n:=n) (l:=sv.l) (bP n (sv.l.map (·.xs))) Tryz.call121 wF (λρ w' hw=>ajJ w' n (ae hw λR h=>hn.later h) at_ sv (ae hw λR h=>hs.later h) i s hi hia (hf.pool aa) hgs) ?_ ?_ ?_<;>intros))|(show aJ _ 123 ..;(refine oH (f:=123) (n:=n) (l:=sv.l) (bP n (sv.l.map (·.xs))) Tryz.call123 wF (λρ w' hw=>ajz w' n (ae hw λR h=>hn.later h) at_ sv (ae hw λR h=>hs.later h) i s hi hia) ?_ ?_ ?_<;>intros))|refine a_ ?_|refine ag ?_ ?_<;>intro _)
   all_goals first
    |exact vw (λ_ _ h=>h) rfl fw
    |exact vX _ (λ_ _ h=>h) rfl fw fw
    |exact J3 _ (λ_ _ h=>h) rfl fw fw
end
section
variable {base:Option Addr} {len cap size:Nat} {K:SV->Prop}
theorem Tq(hb:base=none)(hl:len=0)(h:K (.c (.slice none 0 0))):ny base len cap size none (some (len:Int)) (some (len:Int)) K:=by
 subst hb hl;exact Mo (aae _) h
theorem EH{a:Addr}(hb:base=some a)(hc:len<=cap)(h:K (.c (.slice (some a) len len))):ny base len cap size none (some (len:Int)) (some (len:Int)) K:=by
 subst hb;exact Mo hc h
variable {B:Base} {ρ:Nat->SX.Loc} {nx i m:Nat} {H:Heap} {S:bR} {w:World} {T:TypeId} {R:List (List Value)} {xs:List Int}
theorem OI(hw:dO B ρ nx H S w)(he:(i,b_.rows R 1 T)∈H)(hR:R=aZ xs)(hm:m=xs.length)(hf:∀x∈xs,i64 x)(hl:xs.length<=1000000):
 ∃v:ax,(SV.dW ρ [.os i m]).toArray= #[v.val]/\v.xs=xs/\v.ok w:=by
 subst hR hm;refine⟨⟨(ρ i).base,(ρ i).cap,xs⟩,rfl,rfl,eZ hw he,hf,?_,hl⟩;obtain⟨R,φ,hw⟩:=hw;have:=(hw.jA _ he).2.1;simpa[aP]using this
theorem TD(hw:dO B ρ nx H S w)(he:(i,b_.rows R 1 T)∈H)(hR:R=aZ xs)(hm:m=xs.length)(hf:∀x∈xs,i64 x)(hl:xs.length<=1000000)(h1:1<=xs.length):
 Calls Tryz.prog 53 (SV.dW ρ [.os i m]).toArray w λe w'=>e= .returned (.int .i64 (foldI max xs))/\Ext w w':=by
 obtain⟨v,e1,rfl,hv⟩:=OI hw he hR hm hf hl;rw[e1];exact Ux w v hv h1
theorem Uk(hw:dO B ρ nx H S w)(he:(i,b_.rows R 1 T)∈H)(hR:R=aZ xs)(hm:m=xs.length)(hf:∀x∈xs,i64 x)(hl:xs.length<=1000000)(h1:1<=xs.length):
 Calls Tryz.prog 52 (SV.dW ρ [.os i m]).toArray w λe w'=>e= .returned (.int .i64 (foldI min xs))/\Ext w w':=by
 obtain⟨v,e1,rfl,hv⟩:=OI hw he hR hm hf hl;rw[e1];exact U5 w v hv h1
theorem Gw:∀(xs:List Int) (a b:Int),xs.foldl max a<=b↔a<=b/\∀x∈xs,x<=b
 |[],a,b=>by simp
 |x::r,a,b=>by
  rw[ahb,Gw r];simp only[abr,forall_eq_or_imp];constructor
  ·rintro⟨h1,h2⟩;exact⟨by omega,by omega,h2⟩
  ·rintro⟨h1,h2,h3⟩;exact⟨by omega,h3⟩
theorem Ii:∀(xs:List Int) (a b:Int),b<=xs.foldl min a↔b<=a/\∀x∈xs,b<=x
 |[],a,b=>by simp
 |x::r,a,b=>by
  rw[ahb,Ii r];simp only[abr,forall_eq_or_imp];constructor
  ·rintro⟨h1,h2⟩;exact⟨by omega,by omega,h2⟩
  ·rintro⟨h1,h2,h3⟩;exact⟨by omega,h3⟩
variable {b:Int}
theorem UO(h:xs≠[]):foldI max xs<=b↔∀x∈xs,x<=b:=by
 cases xs with
 |nil=>exact absurd rfl h
 |cons x r=>simp only[foldI,Gw,abr,forall_eq_or_imp]
theorem Uy(h:xs≠[]):b<=foldI min xs↔∀x∈xs,b<=x:=by
 cases xs with
 |nil=>exact absurd rfl h
 |cons x r=>simp only[foldI,Ii,abr,forall_eq_or_imp]
theorem F4(xs:List Int):nR xs=decide (foldI max (xs++[0])<=1048576/\ -1048576<=foldI min (xs++[0])):=by
 rw[nR,Bool.eq_iff_iff];simp only[akM,decide_eq_true_eq];rw[UO aI,Uy aI];simp only[aeh,afe];constructor
 ·intro h;exact⟨λx hx=>hx.elim (λg=>(h x g).2) (λg=>by omega),λx hx=>hx.elim (λg=>(h x g).1) (λg=>by omega)⟩
 ·rintro⟨h1,h2⟩ x hx;exact⟨h2 x (.inl hx),h1 x (.inl hx)⟩
@[irreducible] def gP (n:ak):Bool:=nR n.data.xs&&nR n.aQ.xs&&nR [n.lo,n.hi]&&decide (n.lo<=n.hi)
theorem Pv{v:ax}(h:v.ok w):(v.base=none/\v.xs=[])\/∃a,v.base=some a:=by
 cases hb:v.base with
 |none=>
  left;refine⟨rfl,?_⟩;rcases h.rows with h|⟨a,ha,_⟩
  ·simpa[aZ]using h
  ·rw[hb]at ha;cases ha
 |some a=>exact .inr ⟨a,rfl⟩
theorem U9(h:∀x∈xs,-9223372036854775808<=x/\x<=9223372036854775807):∀x∈xs++[0],i64 x:=by
 intro x hx;rcases aeh.1 hx with hx|hx
 ·exact h x hx
 ·simp at hx;subst hx;exact⟨by decide,by decide⟩
theorem aeT(w:World)(n:ak)(hn:n.ok w)(hd:n.data.xs.length<=5000)(hbi:n.aQ.xs.length<=5000)(at_:Int)(sv:Value):
 Calls Tryz.prog 60 #[nI n at_ sv] w λe w'=>e= .returned (.bool (gP n))/\Ext w w':=by
 have hD:=F4 n.data.xs;have hBi:=F4 n.aQ.xs;have hL:=F4 [n.lo,n.hi];have fD:=U9 hn.data.fits;have fB:=U9 hn.aQ.fits;have fL:∀x∈[n.lo,n.hi]++[0],i64 x:=U9 (by intro x hx;simp at hx;rcases hx with rfl|rfl;exact hn.nk;exact hn.ng);have hfD:=hn.data.room;have hfB:=hn.aQ.room;have hDn:n.data.xs=[]->foldI max (n.data.xs++[0])=0/\foldI min (n.data.xs++[0])=0:=λh=>by rw[h];exact⟨rfl,rfl⟩
 have hBn:n.aQ.xs=[]->foldI max (n.aQ.xs++[0])=0/\foldI min (n.aQ.xs++[0])=0:=λh=>by rw[h];exact⟨rfl,rfl⟩
 rcases Pv hn.data with⟨bD,xD⟩|⟨aD,bD⟩<;>rcases Pv hn.aQ with⟨bB,xB⟩|⟨aB,bB⟩
 all_goals
  try have qD:=hDn xD
  try have qB:=hBn xB
  refine fH Tryz.func60 [.agg [aC n.ai,aC n.a,aC n.b,.c n.az.val,aC n.lo,aC n.hi,aC n.size,.c n.data.val,.c n.aQ.val,aC at_,.c sv]] ?_;repeat' ((conv=>whnf)<;>first|refine a_ ?_)
  refine Wp.freeze 1 (xs:=aZ [n.lo,n.hi]) (k:=1) (T:=3) (aeg _ YV) ?_;intro l hl;have hl2:2<=l.cap:=hl;refine Wp.know (p:=∃a,l.base=some a/\∀R w',((aU w).and (f_ l.base 1 (aZ [n.lo,n.hi]))).holds R w'->bE w' (some a) 1 (aZ [n.lo,n.hi])) ?_ ?_
  ·rintro ρ w' ⟨R,φ,hw⟩;obtain⟨b,off,hb,_⟩:=hw.qL.2.2.resolve_left (by simp[aZ]);exact⟨_,hb,λR' w'' h=>by rw[<-hb];exact bf h.2⟩
  rintro⟨aL,bL,hRL⟩;refine Wp.rounds 4 ?_;repeat' ((conv=>whnf)<;>first|(show ny ..;(first|refine Tq bD (by simp[xD]) ?_|refine Tq bB (by simp[xB]) ?_|refine EH bD aa ?_|refine EH bB aa ?_|refine EH bL aa ?_))|(show jv ..;(refine fU (by first|omega|decide|(show(n.data.xs.length+1)*8<=140737488355328;omega)|(show(n.aQ.xs.length+1)*8<=140737488355328;omega)) ?_))|(show tV ..;(first|refine kF (aP _) (λR w' h=>hn.data.at_ bD R w' h.1) kJ ?_|refine kF (aP _) (λR w' h=>hn.aQ.at_ bB R w' h.1) kJ ?_|refine kF (by simp[aZ]) hRL kJ ?_))|(show aJ _ 53 ..;(refine aR (f:=53) Tryz.call53 (.int .i64 (foldI max (n.data.xs++[0]))) (λρ w' hw=>TD hw YV (xs:=n.data.xs++[0]) OZ z_ fD fK aI) ?_))|(show aJ _ 53 ..;(refine aR (f:=53) Tryz.call53 (.int .i64 (foldI max (n.aQ.xs++[0]))) (λρ w' hw=>TD hw YV (xs:=n.aQ.xs++[0]) Ol z_ fB fK aI) ?_))|(show aJ _ 53 ..;refine aR (f:=53) Tryz.call53 (.int .i64 (foldI max ([n.lo,n.hi]++[0]))) (λρ w' hw=>TD hw YV (xs:=[n.lo,n.hi]++[0]) rfl rfl fL aI aI) ?_)|(show aJ _ 52 ..;(refine aR (f:=52) Tryz.call52 (.int .i64 (foldI min (n.data.xs++[0]))) (λρ w' hw=>Uk hw YV (xs:=n.data.xs++[0]) OZ z_ fD fK aI) ?_))|(show aJ _ 52 ..;(refine aR (f:=52) Tryz.call52 (.int .i64 (foldI min (n.aQ.xs++[0]))) (λρ w' hw=>Uk hw YV (xs:=n.aQ.xs++[0]) Ol z_ fB fK aI) ?_))|(show aJ _ 52 ..;refine aR (f:=52) Tryz.call52 (.int .i64 (foldI min ([n.lo,n.hi]++[0]))) (λρ w' hw=>Uk hw YV (xs:=[n.lo,n.hi]++[0]) rfl rfl fL aI aI) ?_)|refine a_ ?_|refine ag ?_ ?_<;>intro _)
  all_goals(conv=>whnf)
  all_goals(refine bq (B:=⟨w,[]⟩) (w:=w) (S:=(aU w).and (f_ l.base 1 (aZ [n.lo,n.hi]))) (λ_ _ h=>h.1) rfl ?_;unfold gP;(first|rw[show nR n.data.xs=true from by rw[xD];rfl]|rw[hD]);(first|rw[show nR n.aQ.xs=true from by rw[xB];rfl]|rw[hBi]);rw[hL])
  all_goals first|(simp only[ami,decide_eq_false_iff_not];omega)|((repeat rw[decide_eq_true aa]);rfl)
end
section
structure bM where
 base:Option Addr
 cap:Nat
 l:List ak
 out:Int
def bO(l:List ak):List (List Value):=l.map ak.cells
theorem jJ(l:List ak):(bO l).length=l.length:=by simp[bO]
theorem fP{l:List ak}{k:Nat}(h:k<l.length):(bO l)[k]? =some l[k].cells:=by simp[bO,h]
def bM.val(g:bM):Value:= .agg #[.slice g.base g.l.length g.cap,.int .i64 g.out]
structure ak.small(n:ak):Prop where
 data:n.data.xs.length<=5000
 aQ:n.aQ.xs.length<=5000
structure bM.ok(w:World)(g:bM):Prop where
 rows:bE w g.base 9 (bO g.l)
 each:∀n∈g.l,n.ok w
 small:∀n∈g.l,n.small
 few:g.l.length<=1000000
 U4:i64 g.out
theorem bM.ok.later{w w':World}{R:Nat->Prop}{g:bM}(h:g.ok w)(hb:(aU w).holds R w'):g.ok w':=⟨aH hb h.rows,λn hn=>(h.each n hn).later hb,h.small,h.few,h.U4⟩
def fq:List ak->List (List Int)->Int×List (List Int)
 |[],sh=>(0,sh)
 |n::r,sh=>if cz n sh.length=false then(3,[])else
  match bP n sh with
  |none=>(4,[])
  |some s=>if gP n=false then(5,[])else fq r (sh++[s])
def check(g:bM):Int×List (List Int):=if g.l.length<1\/24<g.l.length\/g.out<0\/(g.l.length:Int)<=g.out then(3,[])else fq g.l []
variable {r:List ak} {sh:List (List Int)}
theorem tZ{n:ak}(h:cz n sh.length=false):fq (n::r) sh=(3,[]):=by simp only[fq];rw[if_pos h]
theorem rz{n:ak}(h:cz n sh.length=true)(hs:bP n sh=none):fq (n::r) sh=(4,[]):=by simp only[fq];rw[if_neg pV,hs]
variable {s:List Int}
theorem kL{n:ak}(h:cz n sh.length=true)(hs:bP n sh=some s)(hn:gP n=false):fq (n::r) sh=(5,[]):=by simp only[fq];rw[if_neg pV,hs];simp only;rw[if_pos hn]
theorem iE{n:ak}(h:cz n sh.length=true)(hs:bP n sh=some s)(hn:gP n=true):fq (n::r) sh=fq r (sh++[s]):=by simp only[fq];rw[if_neg pV,hs];simp only;rw[if_neg (by simp[hn])]
def jD(sv:aY):bR where
 holds R w:=(f_ sv.base 1 (bA sv.l)).holds R w/\∀u∈sv.l,(bX u).holds R w
 stable:=λhR hw h=>⟨(f_ _ _ _).stable hR hw h.1,λu hu=>(bX u).stable hR hw (h.2 u hu)⟩
def rT(N:Nat)(l:List ax):bR where
 holds R w:=∀u∈l,(Oi N u).holds R w
 stable:=λhR hw h u hu=>(Oi N u).stable hR hw (h u hu)
theorem yD(N:Nat)(R:Nat->Prop)(w:World):(rT N []).holds R w:=λu hu=>by simp at hu
theorem mR{N:Nat}{l:List ax}{u:ax}{R:Nat->Prop}{w:World}(h:(rT N l).holds R w)(hu:(Oi N u).holds R w):(rT N (l++[u])).holds R w:=by
 intro v hv;rcases aeh.1 hv with hv|hv
 ·exact h v hv
 ·simp at hv;subst hv;exact hu
def oW(w:World)(r:Int×List (List Int))(e:Ending)(w':World):Prop:=
 ∃(v:Value),e= .returned (.tuple #[v,.int .i64 r.1])/\Ext w w'/\(r.1≠0->v= .slice none 0 0)/\
  (r.1=0->∃sv:aY,v=sv.val/\sv.l.map (·.xs)=r.2/\(∀u∈sv.l,u.bF)/\(jD sv).holds (λb=>w.heap.size<=b/\b<w'.heap.size) w'/\sv.l.length<=sv.cap)
variable {B:Base} {H:Heap} {nx:Nat}
theorem mX{S:bR}{w:World}{r:Int×List (List Int)}{k:Int}(hb:∀R w',S.holds R w'->(aU B.w0).holds R w')(hw0:B.w0=w)(hr:r=(k,[]))(hk:k≠0):jS B (.xg [.c (.slice none 0 0),aC k]) H S nx (oW w r):=by
 subst hw0 hr;exact dK λρ w' hw=>⟨_,rfl,bG hw hb,λ_=>rfl,λh=>absurd h hk⟩
variable {i:Nat} {T:TypeId}
theorem aoW{S:bR}{m:Nat}{w:World}{r:Int×List (List Int)}{us:List ax}(hb:∀R w',S.holds R w'->(aU B.w0).holds R w')(hs:∀R w',S.holds R w'->(rT B.w0.heap.size us).holds R w')(xz:∀u∈us,u.bF)(hw0:B.w0=w)(he:(i,b_.rows (bA us) 1 T)∈H)(hm:m=us.length)(hr:r=(0,us.map (·.xs))):
 jS B (.xg [.os i m,aC 0]) H S nx (oW w r):=by
 subst hw0 hr hm;refine dK λρ w' hw=>⟨_,rfl,bG hw hb,λh=>absurd rfl h,λ_=> ?_⟩;have hn:=fI hw hb he;obtain⟨base,cap,e1,h1⟩:=ig hn;obtain⟨l',e2,F,_,_,hcap,_⟩:=hn;have e3:cap=l'.cap:=by
  have:=e1.symm.trans e2;simp only[Value.slice.injEq]at this;exact this.2.2
 refine⟨⟨base,cap,us⟩,?_,rfl,xz,⟨h1,λu hu=>lW hw λR w'' h=>hs R w'' h u hu⟩,?_⟩
 ·rw[acN]at e1;exact e1
 ·rw[acN]at hcap;show us.length<=cap;omega
theorem Qj{cx:Cx}{f:FuncId}{args:List SV}{S:bR}{K:SV->Heap->bR->Nat->Prop}(xs:List Int)(hf:∀ar w,(callFunc f ar).run cx.P w= .ok (.enter f ar) w)(hfit:∀x∈xs,-9223372036854775808<=x/\x<=9223372036854775807)(hl:xs.length<=1000000)
 (hc:∀ρ w',dO cx.B ρ nx H S w'->Calls cx.P f (SV.dW ρ args).toArray w' (λe w''=>∃v,e= .returned v/\Ext w' w''/\je w' w'' v 1 3 (aZ xs)))
 (h:∀u:ax,u.xs=xs->u.bF->K (.c u.val) H (S.and (Oi cx.B.w0.heap.size u)) nx):aJ cx f args H S nx K:=by
 refine jU hf ax.val bX (λu=>u.xs=xs/\u.bF) (λρ w' hw=>(hc ρ w' hw).mono ?_) (λu hu=>h u hu.1 hu.2);rintro e w'' ⟨v,rfl,he,hn⟩;obtain⟨u,rfl,h1,h2,h3⟩:=vv hn hfit hl;exact⟨u,⟨h1,h2⟩,rfl,he,h3⟩
theorem V_(l:List ax)(u:ax):bA (l++[u])=bA l++[[u.val]]:=by simp[bA]
theorem Og{ρ:Nat->SX.Loc}{S:bR}{w:World}{N:Nat}{us:List ax}(hw:dO B ρ nx H S w)(he:(i,b_.rows (bA us) 1 T)∈H)(hS:∀R w',S.holds R w'->(rT N us).holds R w')(iL:∀u∈us,u.bF/\0<au u.xs)(hl:us.length<=24):
 (⟨(ρ i).base,(ρ i).cap,us⟩:aY).ok w:=
 ⟨eZ hw he,λu hu=>ae hw λR h=>dw (iL u hu).1 ((bX u).mono (hS R w h u hu) (λb hb=>hb.1)),hl⟩
section
variable {w w':World} {R:Nat->Prop} {n:ak} {us:List ax} {u:ax} {S:bR} {N:Nat}
theorem abu(hn:n.ok w)(iL:∀u∈us,u.bF/\0<au u.xs)(hu:u=n.az\/u∈us):u.bF:=hu.elim (λh=>h▸hn.az.bF) (λh=>(iL u h).1)
theorem akX(hn:n.ok w)(iL:∀u∈us,u.bF/\0<au u.xs)(hu:u=n.az\/u∈us)(h:((aU w).and (rT N us)).holds R w'):u.ok w':=
 hu.elim (λe=>e▸hn.az.later h.1) (λe=>dw (iL u e).1 ((bX u).mono (h.2 u e) (λb hb=>hb.1)))
theorem alC(hu:u.bF)(h:(S.and (Oi N u)).holds R w'):u.ok w':=dw hu ((bX u).mono h.2 (λb hb=>hb.1))
end
theorem Jp{us:List ax}{v:ax}(iL:∀u∈us,u.bF/\0<au u.xs)(h1:v.bF)(h2:0<au v.xs):∀u∈us++[v],u.bF/\0<au u.xs:=by
 intro u hu;rcases aeh.1 hu with hu|hu
 ·exact iL u hu
 ·simp at hu;subst hu;exact⟨h1,h2⟩
theorem yA(us:List ax)(v:ax):(i,b_.rows (bA (us++[v])) 1 T)∈(i,b_.rows (List.take us.length (bA us)++[[v.val]]) 1 T)::H:=by
 rw[V_,aen (by rw[acN];exact Tw _)];exact YV
theorem qE(w:World)(g:bM)(hg:g.ok w):Calls Tryz.prog 24 #[g.val] w (oW w (check g)):=by
 by_cases hc:g.l.length<1\/24<g.l.length\/g.out<0\/(g.l.length:Int)<=g.out
 ·have hs:check g=(3,[]):=by unfold check;rw[if_pos hc]
  rw[hs];refine fH Tryz.func24 [.agg [.c (.slice g.base g.l.length g.cap),aC g.out]] ?_;repeat' ((conv=>whnf)<;>first|refine a_ ?_|refine ag ?_ ?_<;>intro _)
  all_goals exact mX (λ_ _ h=>h) rfl rfl ay
 ·have hs:check g=fq g.l []:=by unfold check;rw[if_neg hc]
  rw[hs];obtain⟨a,ha⟩:∃a,g.base=some a:=aT (j:=0) hg.rows ko;refine fH Tryz.func24 [.agg [.c (.slice g.base g.l.length g.cap),aC g.out]] ?_;repeat' ((conv=>whnf)<;>first|refine a_ ?_|refine ag ?_ ?_<;>intro _)
  refine Wp.loop (σ:=Nat×List ax) 2 (λ⟨k,us⟩=>[(34,.c (.slice g.base g.l.length g.cap)),(35,aC g.l.length),(36,aC k),(4,.os 1 k)]) (λ⟨_,us⟩=>[(1,.rows (bA us) 1 32)]) (λ⟨_,us⟩=>(aU w).and (rT w.heap.size us))
   (λ⟨k,us⟩=>k<=g.l.length/\us.length=k/\(∀u∈us,u.bF/\0<au u.xs)/\fq g.l []=fq (g.l.drop k) (us.map (·.xs))) (λs=>g.l.length-s.1) (0,[]) [(1,none)] ay (λs=>⟨rfl,rfl⟩) ⟨by simp,rfl,by simp,rfl⟩ ⟨rfl,⟨rfl,rfl,rfl,rfl,trivial⟩,⟨rfl,trivial⟩,λR w' h=>⟨h,yD _ _ _⟩⟩ ?_
  rintro⟨k,us⟩ ⟨hk,I4,iL,he⟩;by_cases hlt:k<g.l.length
  ·rw[drop_at hlt]at he;have hn:=hg.each _ (aby hlt);have hsm:=hg.small _ (aby hlt);generalize hnk:g.l[k]=n at*;have hrow:(bO g.l)[k]? =some n.cells:=by rw[fP hlt,hnk]
   subst I4;have hgs:∀s∈us.map (·.xs),0<au s:=λs hs=>by obtain⟨u,hu,rfl⟩:=abl.1 hs;exact(iL u hu).2
   have hlm:(us.map (·.xs)).length=us.length:=aas _;repeat' ((conv=>whnf)<;>first|(show dn ..;refine aM a us.length ha rfl hlt ?_)|refine A_ ?_|(show aJ _ 58 ..;((refine jR (f:=58) Tryz.call58 _ (λρ w' hw=>aeS w' n (ae hw λR h=>Gi) us.length ((SV.os 1 us.length).rf ρ)) ?_ ?_<;>intro hform)))|(show aJ _ 59 ..;(refine oH (f:=59) (n:=n) (l:=us) (bP n (us.map λx:ax=>x.xs)) Tryz.call59 rfl (λρ w' hw=>adI w' n (ae hw λR h=>Gi) us.length ⟨(ρ 1).base,(ρ 1).cap,us⟩ (Og hw (aeg _ (aeg _ YV)) (λR w' h=>h.2) iL aa) (dJ hform) (λs hs=>(iL s hs).2)) (λhr v=> ?_) (λu hr hu=> ?_) (λu hr hu=> ?_)))|(show aJ _ 60 ..;((refine jR (f:=60) Tryz.call60 _ (λρ w' hw=>aeT w' n (ae hw λR h=>Gi) hsm.data hsm.aQ us.length ((SV.os 1 us.length).rf ρ)) ?_ ?_<;>intro abC)))|(show aJ _ 32 ..;(refine Qj (f:=32) u.xs Tryz.call32 (by first|exact(abu hn iL hu).fits|exact hu.fits) (by first|exact(abu hn iL hu).few|exact hu.few) (λρ w' hw=>Du w' u (ae hw λR h=>by first|exact akX hn iL hu h|exact alC hu h) (g_ (jG (n:=n) (sh:=us.map λx:ax=>x.xs) Qi hgs hr rfl)).1) (λv hv hvs=> ?_)))|refine zT ?_|refine rX ?_|refine a_ ?_|refine ag ?_ ?_<;>intro _)
   all_goals(conv=>whnf)
   ·exact mX (B:=⟨w,[]⟩) (λ_ _ h=>h.1) rfl (he.trans (rz ja hr)) ay
   ·exact⟨(us.length+1,us++[v]),[(1,some 5)],⟨hlt,by simp,Jp iL hvs (hv▸jG Fu hgs hr rfl),he.trans ((iE ja hr abC).trans (by rw[afn,<-hv];rfl))⟩,by simp only;omega,rfl,fE,⟨yA us v,trivial⟩,λR w' h=>⟨h.1.1,mR h.1.2 h.2⟩⟩
   ·exact mX (B:=⟨w,[]⟩) (λ_ _ h=>h.1) rfl (he.trans (kL ja hr abC)) ay
   ·exact⟨(us.length+1,us++[v]),[(1,some 5)],⟨hlt,by simp,Jp iL hvs (hv▸jG Fu hgs hr rfl),he.trans ((iE ja hr abC).trans (by rw[afn,<-hv];rfl))⟩,by simp only;omega,rfl,fE,⟨yA us v,trivial⟩,λR w' h=>⟨h.1.1.1,mR h.1.1.2 h.2⟩⟩
   ·exact mX (B:=⟨w,[]⟩) (λ_ _ h=>h.1.1) rfl (he.trans (kL ja hr abC)) ay
   ·exact mX (B:=⟨w,[]⟩) (λ_ _ h=>h.1) rfl (he.trans (tZ ja)) ay
  ·rw[amC aa]at he;subst I4;repeat' ((conv=>whnf)<;>first|refine a_ ?_|refine ag ?_ ?_<;>intro _)
   conv=>whnf
   exact aoW (B:=⟨w,[]⟩) (λ_ _ h=>h.1) (λ_ _ h=>h.2) (λu hu=>(iL u hu).1) rfl YV rfl he
end
section
def bools(l:List Bool):List (List Value):=l.map λb=>[.bool b]
theorem UX(l:List Bool):(bools l).length=l.length:=by simp[bools]
structure EZ where
 base:Option Addr
 cap:Nat
 bs:List Bool
def EZ.val(v:EZ):Value:= .slice v.base v.bs.length v.cap
def fM(v:EZ):bR:=f_ v.base 1 (bools v.bs)
def Dq(w:World)(l:List Bool)(e:Ending)(w':World):Prop:=
 ∃u:EZ,(u.bs=l/\∃a,u.base=some a)/\e= .returned u.val/\Ext w w'/\(fM u).holds (λb=>w.heap.size<=b/\b<w'.heap.size) w'
variable {H:Heap} {S:bR} {nx:Nat} {l:List Bool} {w:World}
theorem Qm{B:Base}{i m:Nat}{T:TypeId}(hb:∀R w',S.holds R w'->(aU B.w0).holds R w')(hw0:B.w0=w)(he:(i,b_.rows (bools l) 1 T)∈H)(hm:m=l.length)(hl:l≠[]):
 jS B (.os i m) H S nx (Dq w l):=by
 subst hw0 hm;refine dK λρ w' hw=> ?_;have hn:=fI hw hb he;obtain⟨base,cap,e1,h1⟩:=ig hn;rw[UX]at e1;refine⟨⟨base,cap,l⟩,⟨rfl,?_⟩,by rw[e1];rfl,bG hw hb,h1⟩;rcases h1.2 with h|⟨b,off,h,_⟩
 ·exact absurd (by simpa[bools]using h) hl
 ·exact⟨_,h⟩
variable {j:Nat} {K:SV->Prop}
theorem bJ{a:Addr}(hx:∀R w,S.holds R w->bE w (some a) 1 (bools l))(hj:j<l.length)(h:K (.c (.bool (l.getD j false)))):gZ (a.add (j*1)) S K:=
 bN hx [.bool (l.getD j false)] (.bool (l.getD j false)) (by simp[bools,List.getD,hj]) rfl h
theorem bQ{a:Addr}(p:Prop)[Decidable p](hx:∀R w,S.holds R w->bE w (some a) 1 (bools l))(hj:j<l.length)(he:l.getD j false=decide p)(h1:p->K (.c (.bool true)))(h2:¬p->K (.c (.bool false))):gZ (a.add (j*1)) S K:=by
 refine bJ hx hj ?_;rw[he];by_cases hp:p
 ·rw[decide_eq_true hp];exact h1 hp
 ·rw[decide_eq_false hp];exact h2 hp
@[irreducible] def q8 (k:Int):Option (List Bool):=
  if k=1 then some [false,false,true,true,false,false,false]
  else if k=2 then some [false,false,true,false,false,true,false]
  else if k=3 then some [true,false,false,false,false,true,true]
  else if k=4 then some [true,false,true,false,false,true,true]
  else if k=5 then some [true,false,false,false,true,false,false]
  else if k=6 then some [true,true,false,false,false,false,false]
  else if k=7 then some [true,false,false,false,false,true,false]
  else if k=8 then some [true,false,false,false,false,true,false]
  else if k=9 then some [true,false,true,false,false,false,false]
  else none
theorem qW(w:World)(k:Int)(l:List Bool)(hm:q8 k=some l):Calls Tryz.prog 133 #[.int .i64 k] w (Dq w l):=by
 unfold q8 at hm;refine fH Tryz.func133 [aC k] ?_;repeat' ((conv=>whnf)<;>first|refine a_ ?_|refine ag ?_ ?_<;>intro _)
 all_goals(repeat(first|rw[if_pos aa]at hm|rw[if_neg aa]at hm))
 all_goals first
  |(cases hm;done)
  |(obtain rfl:=Option.some.inj hm;exact Qm (λ_ _ h=>h) rfl YV rfl aI)
theorem agr(w:World)(k:Int)(hm:q8 k=none):Calls Tryz.prog 133 #[.int .i64 k] w λe w'=>e= .returned (.slice none 0 0)/\Ext w w':=by
 unfold q8 at hm;refine fH Tryz.func133 [aC k] ?_;repeat' ((conv=>whnf)<;>first|refine a_ ?_|refine ag ?_ ?_<;>intro _)
 all_goals(repeat(first|rw[if_pos aa]at hm|rw[if_neg aa]at hm))
 all_goals first
  |(cases hm;done)
  |exact bZ (λ_ _ h=>h) (λ_=>rfl) rfl
def aew(n:ak):List Bool:=[decide (n.a≠0),decide (n.b≠0),decide ((n.az.xs.length:Int)>0),decide (n.lo≠0\/n.hi≠0),decide (n.size≠0),decide ((n.data.xs.length:Int)>0),decide ((n.aQ.xs.length:Int)>0)]
theorem y7{p:Prop}[Decidable p]{K:Bool->Prop}(h:K (decide p)):iG p K:=by
 rw[BH];exact⟨λhp=>by rw[decide_eq_true hp]at h;exact h,λhp=>by rw[decide_eq_false hp]at h;exact h⟩
theorem aik(w:World)(n:ak):Calls Tryz.prog 134 #[.agg n.cells.toArray] w (Dq w (aew n)):=by
 refine fH Tryz.func134 [.agg (vo n)] ?_;repeat' ((conv=>whnf)<;>first|(show @iG _ _ _;(first|refine y7 (p:=n.a≠0) ?_|refine y7 (p:=n.b≠0) ?_|refine y7 (p:=(n.az.xs.length:Int)>0) ?_|refine y7 (p:=n.size≠0) ?_|refine y7 (p:=(n.data.xs.length:Int)>0) ?_|refine y7 (p:=(n.aQ.xs.length:Int)>0) ?_|refine gJ aa ?_|refine jc aa ?_|(refine ag ?_ ?_<;>intro _)))|refine a_ ?_)
 all_goals(conv=>whnf)
 all_goals refine Qm (B:=⟨w,[]⟩) (l:=aew n) (T:=4) (λ_ _ h=>h) rfl ?_ rfl (by simp[aew])
 all_goals(unfold aew;(first|rw[decide_eq_true (p:=n.lo≠0\/n.hi≠0) aa]|rw[decide_eq_false (p:=n.lo≠0\/n.hi≠0) aa]);exact YV)
theorem jH{cx:Cx}{f:FuncId}{args:List SV}{K:SV->Heap->bR->Nat->Prop}(l:List Bool)(m:Nat)(hm:l.length=m)(hf:∀ar w,(callFunc f ar).run cx.P w= .ok (.enter f ar) w)
 (hc:∀ρ w',dO cx.B ρ nx H S w'->Calls cx.P f (SV.dW ρ args).toArray w' (Dq w' l))
 (h:∀(u:EZ) (a:Addr),u.bs=l->u.base=some a->u.bs.length=m->K (.c u.val) H (S.and ((fM u).past cx.B.w0.heap.size)) nx):aJ cx f args H S nx K:=
 jU hf EZ.val fM (λu=>u.bs=l/\∃a,u.base=some a) (λρ w' hw=>hc ρ w' hw) (λu hu=>hu.2.elim λa ha=>h u a hu.1 ha (by rw[hu.1,hm]))
theorem aG{u:EZ}{a:Addr}{N:Nat}{R:Nat->Prop}(hl:u.bs=l)(ha:u.base=some a)(h:((fM u).past N).holds R w):bE w (some a) 1 (bools l):=by
 subst hl;rw[<-ha];exact bf h
variable {t:TypeId} {ti:TI} {ox oy:Operand}
theorem Gz{P:Program}(h:lu P t=some ti)(hk:ti.ai=1){base:Option Addr}{len cap:Nat}{a:Addr}(hb:base=some a)(hK:K (.c (.bool false))):
 mi P (do eqGuard .eql t ox oy (.slice base len cap) (.slice none 0 0);binOp .eql t (.slice base len cap) (.slice none 0 0)) K:=by
 subst hb;exact ji h hk hK
theorem Eo{P:Program}(h:lu P t=some ti)(hk:ti.ai=1)(hK:K (.c (.bool true))):
 mi P (do eqGuard .eql t ox oy (.slice none 0 0) (.slice none 0 0);binOp .eql t (.slice none 0 0) (.slice none 0 0)) K:=ji h hk hK
theorem qP{n:ak}{a b sh sp si da bi:Bool}:gW n a b sh sp si da bi=decide (¬((n.a≠0/\a=false)\/(n.b≠0/\b=false)\/((n.az.xs.length:Int)>0/\sh=false)\/((n.lo≠0\/n.hi≠0)/\sp=false)\/(n.size≠0/\si=false)\/((n.data.xs.length:Int)>0/\da=false)\/((n.aQ.xs.length:Int)>0/\bi=false))):=by
 unfold gW;rw[Bool.eq_iff_iff];simp only[afF,amh,decide_eq_true_eq];cases a<;>cases b<;>cases sh<;>cases sp<;>cases si<;>cases da<;>cases bi<;>simp only[aob,Bool.true_eq_false,false_or,true_or,and_false,and_true,or_false,true_and,reduceCtorEq]<;>first|omega|simp
end
theorem ad6(w:World)(n:ak)(hn:n.ok w)(at_:Int)(hk:n.ai=1):
 Calls Tryz.prog 79 #[.agg n.cells.toArray,.int .i64 at_] w λe w'=>e= .returned (.bool (cz n at_))/\Ext w w':=by
 have hm:q8 n.ai=some [false,false,true,true,false,false,false]:=by unfold q8;rw[hk];rfl
 obtain⟨a,hbase⟩:=lN hn.az;have nL:cz n at_=cz n at_:=rfl;conv at nL=>rhs;unfold cz
 repeat(first|rw[if_pos aa]at nL|rw[if_neg aa]at nL)
 rw[qP]at nL;simp only[iI]at nL;refine fH Tryz.func79 [.agg (vo n),aC at_] ?_;repeat' ((conv=>whnf)<;>first|(show aJ _ 133 ..;refine jH (f:=133) [false,false,true,true,false,false,false] 7 rfl Tryz.call133 (λρ w' hw=>qW w' n.ai [false,false,true,true,false,false,false] hm) (λm am hml jW hmn=> ?_))|refine lg ?_|(refine kV ?_;intro h ah mK hah hhn)|refine bV ?_)
 refine Wp.rounds 8 ?_;repeat' ((conv=>whnf)<;>first|refine nZ ?_|refine nQ ?_|refine j4 ?_|(show gZ ..;(first|(refine bQ (j:=0) (n.a≠0) (λR w' h=>aG mK hah aX) (show 0<7 by decide) rfl ?_ ?_<;>intro _)|refine bJ (j:=0) (λR w' h=>aG hml jW aW) (show 0<7 by decide) ?_|(refine bQ (j:=1) (n.b≠0) (λR w' h=>aG mK hah aX) (show 1<7 by decide) rfl ?_ ?_<;>intro _)|refine bJ (j:=1) (λR w' h=>aG hml jW aW) (show 1<7 by decide) ?_|(refine bQ (j:=2) ((n.az.xs.length:Int)>0) (λR w' h=>aG mK hah aX) (show 2<7 by decide) rfl ?_ ?_<;>intro _)|refine bJ (j:=2) (λR w' h=>aG hml jW aW) (show 2<7 by decide) ?_|(refine bQ (j:=3) (n.lo≠0\/n.hi≠0) (λR w' h=>aG mK hah aX) (show 3<7 by decide) rfl ?_ ?_<;>intro _)|refine bJ (j:=3) (λR w' h=>aG hml jW aW) (show 3<7 by decide) ?_|(refine bQ (j:=4) (n.size≠0) (λR w' h=>aG mK hah aX) (show 4<7 by decide) rfl ?_ ?_<;>intro _)|refine bJ (j:=4) (λR w' h=>aG hml jW aW) (show 4<7 by decide) ?_|(refine bQ (j:=5) ((n.data.xs.length:Int)>0) (λR w' h=>aG mK hah aX) (show 5<7 by decide) rfl ?_ ?_<;>intro _)|refine bJ (j:=5) (λR w' h=>aG hml jW aW) (show 5<7 by decide) ?_|(refine bQ (j:=6) ((n.aQ.xs.length:Int)>0) (λR w' h=>aG mK hah aX) (show 6<7 by decide) rfl ?_ ?_<;>intro _)|refine bJ (j:=6) (λR w' h=>aG hml jW aW) (show 6<7 by decide) ?_|refine dP (j:=0) (λR w' h=>hn.az.at_ (hbase aa) R w' kW) aa ?_))|refine bV ?_|refine ag ?_ ?_<;>intro _)
 all_goals(conv=>whnf)
 all_goals refine bq (B:=⟨w,[]⟩) (S:=((aU w).and ((fM m).past w.heap.size)).and ((fM h).past w.heap.size)) (λ_ _ h=>h.1.1) rfl ?_
 all_goals rw[nL]
 all_goals simp only[afF,ami,decide_eq_true_eq,decide_eq_false_iff_not,reduceCtorEq,and_false,and_true,or_false,false_or]
 all_goals first|omega|(simp;omega)
theorem adf(w:World)(n:ak)(hn:n.ok w)(at_:Int)(hk:n.ai=2):
 Calls Tryz.prog 79 #[.agg n.cells.toArray,.int .i64 at_] w λe w'=>e= .returned (.bool (cz n at_))/\Ext w w':=by
 have hm:q8 n.ai=some [false,false,true,false,false,true,false]:=by unfold q8;rw[hk];rfl
 obtain⟨a,hbase⟩:=lN hn.az;have nL:cz n at_=cz n at_:=rfl;conv at nL=>rhs;unfold cz
 repeat(first|rw[if_pos aa]at nL|rw[if_neg aa]at nL)
 rw[qP]at nL;simp only[iI]at nL;refine fH Tryz.func79 [.agg (vo n),aC at_] ?_;repeat' ((conv=>whnf)<;>first|(show aJ _ 133 ..;refine jH (f:=133) [false,false,true,false,false,true,false] 7 rfl Tryz.call133 (λρ w' hw=>qW w' n.ai [false,false,true,false,false,true,false] hm) (λm am hml jW hmn=> ?_))|refine lg ?_|(refine kV ?_;intro h ah mK hah hhn)|refine bV ?_)
 refine Wp.rounds 8 ?_;repeat' ((conv=>whnf)<;>first|refine nZ ?_|refine nQ ?_|refine j4 ?_|(show gZ ..;(first|(refine bQ (j:=0) (n.a≠0) (λR w' h=>aG mK hah aX) (show 0<7 by decide) rfl ?_ ?_<;>intro _)|refine bJ (j:=0) (λR w' h=>aG hml jW aW) (show 0<7 by decide) ?_|(refine bQ (j:=1) (n.b≠0) (λR w' h=>aG mK hah aX) (show 1<7 by decide) rfl ?_ ?_<;>intro _)|refine bJ (j:=1) (λR w' h=>aG hml jW aW) (show 1<7 by decide) ?_|(refine bQ (j:=2) ((n.az.xs.length:Int)>0) (λR w' h=>aG mK hah aX) (show 2<7 by decide) rfl ?_ ?_<;>intro _)|refine bJ (j:=2) (λR w' h=>aG hml jW aW) (show 2<7 by decide) ?_|(refine bQ (j:=3) (n.lo≠0\/n.hi≠0) (λR w' h=>aG mK hah aX) (show 3<7 by decide) rfl ?_ ?_<;>intro _)|refine bJ (j:=3) (λR w' h=>aG hml jW aW) (show 3<7 by decide) ?_|(refine bQ (j:=4) (n.size≠0) (λR w' h=>aG mK hah aX) (show 4<7 by decide) rfl ?_ ?_<;>intro _)|refine bJ (j:=4) (λR w' h=>aG hml jW aW) (show 4<7 by decide) ?_|(refine bQ (j:=5) ((n.data.xs.length:Int)>0) (λR w' h=>aG mK hah aX) (show 5<7 by decide) rfl ?_ ?_<;>intro _)|refine bJ (j:=5) (λR w' h=>aG hml jW aW) (show 5<7 by decide) ?_|(refine bQ (j:=6) ((n.aQ.xs.length:Int)>0) (λR w' h=>aG mK hah aX) (show 6<7 by decide) rfl ?_ ?_<;>intro _)|refine bJ (j:=6) (λR w' h=>aG hml jW aW) (show 6<7 by decide) ?_|refine dP (j:=0) (λR w' h=>hn.az.at_ (hbase aa) R w' kW) aa ?_))|refine bV ?_|refine ag ?_ ?_<;>intro _)
 all_goals(conv=>whnf)
 all_goals refine bq (B:=⟨w,[]⟩) (S:=((aU w).and ((fM m).past w.heap.size)).and ((fM h).past w.heap.size)) (λ_ _ h=>h.1.1) rfl ?_
 all_goals rw[nL]
 all_goals simp only[afF,ami,decide_eq_true_eq,decide_eq_false_iff_not,reduceCtorEq,and_false,and_true,or_false,false_or]
 all_goals first|omega|(simp;omega)
theorem ac2(w:World)(n:ak)(hn:n.ok w)(at_:Int)(hk:n.ai=3):
 Calls Tryz.prog 79 #[.agg n.cells.toArray,.int .i64 at_] w λe w'=>e= .returned (.bool (cz n at_))/\Ext w w':=by
 have hm:q8 n.ai=some [true,false,false,false,false,true,true]:=by unfold q8;rw[hk];rfl
 obtain⟨a,hbase⟩:=lN hn.az;have nL:cz n at_=cz n at_:=rfl;conv at nL=>rhs;unfold cz
 repeat(first|rw[if_pos aa]at nL|rw[if_neg aa]at nL)
 rw[qP]at nL;simp only[iI]at nL;refine fH Tryz.func79 [.agg (vo n),aC at_] ?_;repeat' ((conv=>whnf)<;>first|(show aJ _ 133 ..;refine jH (f:=133) [true,false,false,false,false,true,true] 7 rfl Tryz.call133 (λρ w' hw=>qW w' n.ai [true,false,false,false,false,true,true] hm) (λm am hml jW hmn=> ?_))|refine lg ?_|(refine kV ?_;intro h ah mK hah hhn)|refine bV ?_)
 refine Wp.rounds 8 ?_;repeat' ((conv=>whnf)<;>first|refine nZ ?_|refine nQ ?_|refine j4 ?_|(show gZ ..;(first|(refine bQ (j:=0) (n.a≠0) (λR w' h=>aG mK hah aX) (show 0<7 by decide) rfl ?_ ?_<;>intro _)|refine bJ (j:=0) (λR w' h=>aG hml jW aW) (show 0<7 by decide) ?_|(refine bQ (j:=1) (n.b≠0) (λR w' h=>aG mK hah aX) (show 1<7 by decide) rfl ?_ ?_<;>intro _)|refine bJ (j:=1) (λR w' h=>aG hml jW aW) (show 1<7 by decide) ?_|(refine bQ (j:=2) ((n.az.xs.length:Int)>0) (λR w' h=>aG mK hah aX) (show 2<7 by decide) rfl ?_ ?_<;>intro _)|refine bJ (j:=2) (λR w' h=>aG hml jW aW) (show 2<7 by decide) ?_|(refine bQ (j:=3) (n.lo≠0\/n.hi≠0) (λR w' h=>aG mK hah aX) (show 3<7 by decide) rfl ?_ ?_<;>intro _)|refine bJ (j:=3) (λR w' h=>aG hml jW aW) (show 3<7 by decide) ?_|(refine bQ (j:=4) (n.size≠0) (λR w' h=>aG mK hah aX) (show 4<7 by decide) rfl ?_ ?_<;>intro _)|refine bJ (j:=4) (λR w' h=>aG hml jW aW) (show 4<7 by decide) ?_|(refine bQ (j:=5) ((n.data.xs.length:Int)>0) (λR w' h=>aG mK hah aX) (show 5<7 by decide) rfl ?_ ?_<;>intro _)|refine bJ (j:=5) (λR w' h=>aG hml jW aW) (show 5<7 by decide) ?_|(refine bQ (j:=6) ((n.aQ.xs.length:Int)>0) (λR w' h=>aG mK hah aX) (show 6<7 by decide) rfl ?_ ?_<;>intro _)|refine bJ (j:=6) (λR w' h=>aG hml jW aW) (show 6<7 by decide) ?_|refine dP (j:=0) (λR w' h=>hn.az.at_ (hbase aa) R w' kW) aa ?_))|refine bV ?_|refine ag ?_ ?_<;>intro _)
 all_goals(conv=>whnf)
 all_goals refine bq (B:=⟨w,[]⟩) (S:=((aU w).and ((fM m).past w.heap.size)).and ((fM h).past w.heap.size)) (λ_ _ h=>h.1.1) rfl ?_
 all_goals rw[nL]
 all_goals simp only[afF,ami,decide_eq_true_eq,decide_eq_false_iff_not,reduceCtorEq,and_false,and_true,or_false,false_or]
 all_goals first|omega|(simp;omega)
theorem acI(w:World)(n:ak)(hn:n.ok w)(at_:Int)(hk:n.ai=5):
 Calls Tryz.prog 79 #[.agg n.cells.toArray,.int .i64 at_] w λe w'=>e= .returned (.bool (cz n at_))/\Ext w w':=by
 have hm:q8 n.ai=some [true,false,false,false,true,false,false]:=by unfold q8;rw[hk];rfl
 obtain⟨a,hbase⟩:=lN hn.az;have nL:cz n at_=cz n at_:=rfl;conv at nL=>rhs;unfold cz
 repeat(first|rw[if_pos aa]at nL|rw[if_neg aa]at nL)
 rw[qP]at nL;simp only[iI]at nL;refine fH Tryz.func79 [.agg (vo n),aC at_] ?_;repeat' ((conv=>whnf)<;>first|(show aJ _ 133 ..;refine jH (f:=133) [true,false,false,false,true,false,false] 7 rfl Tryz.call133 (λρ w' hw=>qW w' n.ai [true,false,false,false,true,false,false] hm) (λm am hml jW hmn=> ?_))|refine lg ?_|(refine kV ?_;intro h ah mK hah hhn)|refine bV ?_)
 refine Wp.rounds 8 ?_;repeat' ((conv=>whnf)<;>first|refine nZ ?_|refine nQ ?_|refine j4 ?_|(show gZ ..;(first|(refine bQ (j:=0) (n.a≠0) (λR w' h=>aG mK hah aX) (show 0<7 by decide) rfl ?_ ?_<;>intro _)|refine bJ (j:=0) (λR w' h=>aG hml jW aW) (show 0<7 by decide) ?_|(refine bQ (j:=1) (n.b≠0) (λR w' h=>aG mK hah aX) (show 1<7 by decide) rfl ?_ ?_<;>intro _)|refine bJ (j:=1) (λR w' h=>aG hml jW aW) (show 1<7 by decide) ?_|(refine bQ (j:=2) ((n.az.xs.length:Int)>0) (λR w' h=>aG mK hah aX) (show 2<7 by decide) rfl ?_ ?_<;>intro _)|refine bJ (j:=2) (λR w' h=>aG hml jW aW) (show 2<7 by decide) ?_|(refine bQ (j:=3) (n.lo≠0\/n.hi≠0) (λR w' h=>aG mK hah aX) (show 3<7 by decide) rfl ?_ ?_<;>intro _)|refine bJ (j:=3) (λR w' h=>aG hml jW aW) (show 3<7 by decide) ?_|(refine bQ (j:=4) (n.size≠0) (λR w' h=>aG mK hah aX) (show 4<7 by decide) rfl ?_ ?_<;>intro _)|refine bJ (j:=4) (λR w' h=>aG hml jW aW) (show 4<7 by decide) ?_|(refine bQ (j:=5) ((n.data.xs.length:Int)>0) (λR w' h=>aG mK hah aX) (show 5<7 by decide) rfl ?_ ?_<;>intro _)|refine bJ (j:=5) (λR w' h=>aG hml jW aW) (show 5<7 by decide) ?_|(refine bQ (j:=6) ((n.aQ.xs.length:Int)>0) (λR w' h=>aG mK hah aX) (show 6<7 by decide) rfl ?_ ?_<;>intro _)|refine bJ (j:=6) (λR w' h=>aG hml jW aW) (show 6<7 by decide) ?_|refine dP (j:=0) (λR w' h=>hn.az.at_ (hbase aa) R w' kW) aa ?_))|refine bV ?_|refine ag ?_ ?_<;>intro _)
 all_goals(conv=>whnf)
 all_goals refine bq (B:=⟨w,[]⟩) (S:=((aU w).and ((fM m).past w.heap.size)).and ((fM h).past w.heap.size)) (λ_ _ h=>h.1.1) rfl ?_
 all_goals rw[nL]
 all_goals simp only[afF,ami,decide_eq_true_eq,decide_eq_false_iff_not,reduceCtorEq,and_false,and_true,or_false,false_or]
 all_goals first|omega|(simp;omega)
theorem ac7(w:World)(n:ak)(hn:n.ok w)(at_:Int)(hk:n.ai=6):
 Calls Tryz.prog 79 #[.agg n.cells.toArray,.int .i64 at_] w λe w'=>e= .returned (.bool (cz n at_))/\Ext w w':=by
 have hm:q8 n.ai=some [true,true,false,false,false,false,false]:=by unfold q8;rw[hk];rfl
 obtain⟨a,hbase⟩:=lN hn.az;have nL:cz n at_=cz n at_:=rfl;conv at nL=>rhs;unfold cz
 repeat(first|rw[if_pos aa]at nL|rw[if_neg aa]at nL)
 rw[qP]at nL;simp only[iI]at nL;refine fH Tryz.func79 [.agg (vo n),aC at_] ?_;repeat' ((conv=>whnf)<;>first|(show aJ _ 133 ..;refine jH (f:=133) [true,true,false,false,false,false,false] 7 rfl Tryz.call133 (λρ w' hw=>qW w' n.ai [true,true,false,false,false,false,false] hm) (λm am hml jW hmn=> ?_))|refine lg ?_|(refine kV ?_;intro h ah mK hah hhn)|refine bV ?_)
 refine Wp.rounds 8 ?_;repeat' ((conv=>whnf)<;>first|refine nZ ?_|refine nQ ?_|refine j4 ?_|(show gZ ..;(first|(refine bQ (j:=0) (n.a≠0) (λR w' h=>aG mK hah aX) (show 0<7 by decide) rfl ?_ ?_<;>intro _)|refine bJ (j:=0) (λR w' h=>aG hml jW aW) (show 0<7 by decide) ?_|(refine bQ (j:=1) (n.b≠0) (λR w' h=>aG mK hah aX) (show 1<7 by decide) rfl ?_ ?_<;>intro _)|refine bJ (j:=1) (λR w' h=>aG hml jW aW) (show 1<7 by decide) ?_|(refine bQ (j:=2) ((n.az.xs.length:Int)>0) (λR w' h=>aG mK hah aX) (show 2<7 by decide) rfl ?_ ?_<;>intro _)|refine bJ (j:=2) (λR w' h=>aG hml jW aW) (show 2<7 by decide) ?_|(refine bQ (j:=3) (n.lo≠0\/n.hi≠0) (λR w' h=>aG mK hah aX) (show 3<7 by decide) rfl ?_ ?_<;>intro _)|refine bJ (j:=3) (λR w' h=>aG hml jW aW) (show 3<7 by decide) ?_|(refine bQ (j:=4) (n.size≠0) (λR w' h=>aG mK hah aX) (show 4<7 by decide) rfl ?_ ?_<;>intro _)|refine bJ (j:=4) (λR w' h=>aG hml jW aW) (show 4<7 by decide) ?_|(refine bQ (j:=5) ((n.data.xs.length:Int)>0) (λR w' h=>aG mK hah aX) (show 5<7 by decide) rfl ?_ ?_<;>intro _)|refine bJ (j:=5) (λR w' h=>aG hml jW aW) (show 5<7 by decide) ?_|(refine bQ (j:=6) ((n.aQ.xs.length:Int)>0) (λR w' h=>aG mK hah aX) (show 6<7 by decide) rfl ?_ ?_<;>intro _)|refine bJ (j:=6) (λR w' h=>aG hml jW aW) (show 6<7 by decide) ?_|refine dP (j:=0) (λR w' h=>hn.az.at_ (hbase aa) R w' kW) aa ?_))|refine bV ?_|refine ag ?_ ?_<;>intro _)
 all_goals(conv=>whnf)
 all_goals refine bq (B:=⟨w,[]⟩) (S:=((aU w).and ((fM m).past w.heap.size)).and ((fM h).past w.heap.size)) (λ_ _ h=>h.1.1) rfl ?_
 all_goals rw[nL]
 all_goals simp only[afF,ami,decide_eq_true_eq,decide_eq_false_iff_not,reduceCtorEq,and_false,and_true,or_false,false_or]
 all_goals first|omega|(simp;omega)
theorem ac9(w:World)(n:ak)(hn:n.ok w)(at_:Int)(hk:n.ai=7):
 Calls Tryz.prog 79 #[.agg n.cells.toArray,.int .i64 at_] w λe w'=>e= .returned (.bool (cz n at_))/\Ext w w':=by
 have hm:q8 n.ai=some [true,false,false,false,false,true,false]:=by unfold q8;rw[hk];rfl
 obtain⟨a,hbase⟩:=lN hn.az;have nL:cz n at_=cz n at_:=rfl;conv at nL=>rhs;unfold cz
 repeat(first|rw[if_pos aa]at nL|rw[if_neg aa]at nL)
 rw[qP]at nL;simp only[iI]at nL;refine fH Tryz.func79 [.agg (vo n),aC at_] ?_;repeat' ((conv=>whnf)<;>first|(refine Pw ?_;intro m am hml jW hmn)|refine lg ?_|(refine kV ?_;intro h ah mK hah hhn)|refine bV ?_)
 refine Wp.rounds 8 ?_;repeat' ((conv=>whnf)<;>first|refine nZ ?_|refine nQ ?_|refine j4 ?_|(show gZ ..;(first|(refine bQ (j:=0) (n.a≠0) (λR w' h=>aG mK hah aX) (show 0<7 by decide) rfl ?_ ?_<;>intro _)|refine bJ (j:=0) (λR w' h=>aG hml jW aW) (show 0<7 by decide) ?_|(refine bQ (j:=1) (n.b≠0) (λR w' h=>aG mK hah aX) (show 1<7 by decide) rfl ?_ ?_<;>intro _)|refine bJ (j:=1) (λR w' h=>aG hml jW aW) (show 1<7 by decide) ?_|(refine bQ (j:=2) ((n.az.xs.length:Int)>0) (λR w' h=>aG mK hah aX) (show 2<7 by decide) rfl ?_ ?_<;>intro _)|refine bJ (j:=2) (λR w' h=>aG hml jW aW) (show 2<7 by decide) ?_|(refine bQ (j:=3) (n.lo≠0\/n.hi≠0) (λR w' h=>aG mK hah aX) (show 3<7 by decide) rfl ?_ ?_<;>intro _)|refine bJ (j:=3) (λR w' h=>aG hml jW aW) (show 3<7 by decide) ?_|(refine bQ (j:=4) (n.size≠0) (λR w' h=>aG mK hah aX) (show 4<7 by decide) rfl ?_ ?_<;>intro _)|refine bJ (j:=4) (λR w' h=>aG hml jW aW) (show 4<7 by decide) ?_|(refine bQ (j:=5) ((n.data.xs.length:Int)>0) (λR w' h=>aG mK hah aX) (show 5<7 by decide) rfl ?_ ?_<;>intro _)|refine bJ (j:=5) (λR w' h=>aG hml jW aW) (show 5<7 by decide) ?_|(refine bQ (j:=6) ((n.aQ.xs.length:Int)>0) (λR w' h=>aG mK hah aX) (show 6<7 by decide) rfl ?_ ?_<;>intro _)|refine bJ (j:=6) (λR w' h=>aG hml jW aW) (show 6<7 by decide) ?_|refine dP (j:=0) (λR w' h=>hn.az.at_ (hbase aa) R w' kW) aa ?_))|refine bV ?_|refine ag ?_ ?_<;>intro _)
 all_goals(conv=>whnf)
 all_goals refine bq (B:=⟨w,[]⟩) (S:=((aU w).and ((fM m).past w.heap.size)).and ((fM h).past w.heap.size)) (λ_ _ h=>h.1.1) rfl ?_
 all_goals rw[nL]
 all_goals simp only[afF,ami,decide_eq_true_eq,decide_eq_false_iff_not,reduceCtorEq,and_false,and_true,or_false,false_or]
 all_goals first|omega|(simp;omega)
theorem adG(w:World)(n:ak)(hn:n.ok w)(at_:Int)(hk:n.ai=8):
 Calls Tryz.prog 79 #[.agg n.cells.toArray,.int .i64 at_] w λe w'=>e= .returned (.bool (cz n at_))/\Ext w w':=by
 have hm:q8 n.ai=some [true,false,false,false,false,true,false]:=by unfold q8;rw[hk];rfl
 obtain⟨a,hbase⟩:=lN hn.az;have nL:cz n at_=cz n at_:=rfl;conv at nL=>rhs;unfold cz
 repeat(first|rw[if_pos aa]at nL|rw[if_neg aa]at nL)
 rw[qP]at nL;simp only[iI]at nL;refine fH Tryz.func79 [.agg (vo n),aC at_] ?_;repeat' ((conv=>whnf)<;>first|(refine Pw ?_;intro m am hml jW hmn)|refine lg ?_|(refine kV ?_;intro h ah mK hah hhn)|refine bV ?_)
 refine Wp.rounds 8 ?_;repeat' ((conv=>whnf)<;>first|refine nZ ?_|refine nQ ?_|refine j4 ?_|(show gZ ..;(first|(refine bQ (j:=0) (n.a≠0) (λR w' h=>aG mK hah aX) (show 0<7 by decide) rfl ?_ ?_<;>intro _)|refine bJ (j:=0) (λR w' h=>aG hml jW aW) (show 0<7 by decide) ?_|(refine bQ (j:=1) (n.b≠0) (λR w' h=>aG mK hah aX) (show 1<7 by decide) rfl ?_ ?_<;>intro _)|refine bJ (j:=1) (λR w' h=>aG hml jW aW) (show 1<7 by decide) ?_|(refine bQ (j:=2) ((n.az.xs.length:Int)>0) (λR w' h=>aG mK hah aX) (show 2<7 by decide) rfl ?_ ?_<;>intro _)|refine bJ (j:=2) (λR w' h=>aG hml jW aW) (show 2<7 by decide) ?_|(refine bQ (j:=3) (n.lo≠0\/n.hi≠0) (λR w' h=>aG mK hah aX) (show 3<7 by decide) rfl ?_ ?_<;>intro _)|refine bJ (j:=3) (λR w' h=>aG hml jW aW) (show 3<7 by decide) ?_|(refine bQ (j:=4) (n.size≠0) (λR w' h=>aG mK hah aX) (show 4<7 by decide) rfl ?_ ?_<;>intro _)|refine bJ (j:=4) (λR w' h=>aG hml jW aW) (show 4<7 by decide) ?_|(refine bQ (j:=5) ((n.data.xs.length:Int)>0) (λR w' h=>aG mK hah aX) (show 5<7 by decide) rfl ?_ ?_<;>intro _)|refine bJ (j:=5) (λR w' h=>aG hml jW aW) (show 5<7 by decide) ?_|(refine bQ (j:=6) ((n.aQ.xs.length:Int)>0) (λR w' h=>aG mK hah aX) (show 6<7 by decide) rfl ?_ ?_<;>intro _)|refine bJ (j:=6) (λR w' h=>aG hml jW aW) (show 6<7 by decide) ?_|refine dP (j:=0) (λR w' h=>hn.az.at_ (hbase aa) R w' kW) aa ?_))|refine bV ?_|refine ag ?_ ?_<;>intro _)
 all_goals(conv=>whnf)
 all_goals refine bq (B:=⟨w,[]⟩) (S:=((aU w).and ((fM m).past w.heap.size)).and ((fM h).past w.heap.size)) (λ_ _ h=>h.1.1) rfl ?_
 all_goals rw[nL]
 all_goals simp only[afF,ami,decide_eq_true_eq,decide_eq_false_iff_not,reduceCtorEq,and_false,and_true,or_false,false_or]
 all_goals first|omega|(simp;omega)
theorem ads(w:World)(n:ak)(hn:n.ok w)(at_:Int)(hk:n.ai=9):
 Calls Tryz.prog 79 #[.agg n.cells.toArray,.int .i64 at_] w λe w'=>e= .returned (.bool (cz n at_))/\Ext w w':=by
 have hm:q8 n.ai=some [true,false,true,false,false,false,false]:=by unfold q8;rw[hk];rfl
 obtain⟨a,hbase⟩:=lN hn.az;have nL:cz n at_=cz n at_:=rfl;conv at nL=>rhs;unfold cz
 repeat(first|rw[if_pos aa]at nL|rw[if_neg aa]at nL)
 rw[qP]at nL;simp only[iI]at nL;refine fH Tryz.func79 [.agg (vo n),aC at_] ?_;repeat' ((conv=>whnf)<;>first|(show aJ _ 133 ..;refine jH (f:=133) [true,false,true,false,false,false,false] 7 rfl Tryz.call133 (λρ w' hw=>qW w' n.ai [true,false,true,false,false,false,false] hm) (λm am hml jW hmn=> ?_))|refine lg ?_|(refine kV ?_;intro h ah mK hah hhn)|refine bV ?_)
 refine Wp.rounds 8 ?_;repeat' ((conv=>whnf)<;>first|refine nZ ?_|refine nQ ?_|refine j4 ?_|(show gZ ..;(first|(refine bQ (j:=0) (n.a≠0) (λR w' h=>aG mK hah aX) (show 0<7 by decide) rfl ?_ ?_<;>intro _)|refine bJ (j:=0) (λR w' h=>aG hml jW aW) (show 0<7 by decide) ?_|(refine bQ (j:=1) (n.b≠0) (λR w' h=>aG mK hah aX) (show 1<7 by decide) rfl ?_ ?_<;>intro _)|refine bJ (j:=1) (λR w' h=>aG hml jW aW) (show 1<7 by decide) ?_|(refine bQ (j:=2) ((n.az.xs.length:Int)>0) (λR w' h=>aG mK hah aX) (show 2<7 by decide) rfl ?_ ?_<;>intro _)|refine bJ (j:=2) (λR w' h=>aG hml jW aW) (show 2<7 by decide) ?_|(refine bQ (j:=3) (n.lo≠0\/n.hi≠0) (λR w' h=>aG mK hah aX) (show 3<7 by decide) rfl ?_ ?_<;>intro _)|refine bJ (j:=3) (λR w' h=>aG hml jW aW) (show 3<7 by decide) ?_|(refine bQ (j:=4) (n.size≠0) (λR w' h=>aG mK hah aX) (show 4<7 by decide) rfl ?_ ?_<;>intro _)|refine bJ (j:=4) (λR w' h=>aG hml jW aW) (show 4<7 by decide) ?_|(refine bQ (j:=5) ((n.data.xs.length:Int)>0) (λR w' h=>aG mK hah aX) (show 5<7 by decide) rfl ?_ ?_<;>intro _)|refine bJ (j:=5) (λR w' h=>aG hml jW aW) (show 5<7 by decide) ?_|(refine bQ (j:=6) ((n.aQ.xs.length:Int)>0) (λR w' h=>aG mK hah aX) (show 6<7 by decide) rfl ?_ ?_<;>intro _)|refine bJ (j:=6) (λR w' h=>aG hml jW aW) (show 6<7 by decide) ?_|refine dP (j:=0) (λR w' h=>hn.az.at_ (hbase aa) R w' kW) aa ?_))|refine bV ?_|refine ag ?_ ?_<;>intro _)
 all_goals(conv=>whnf)
 all_goals refine bq (B:=⟨w,[]⟩) (S:=((aU w).and ((fM m).past w.heap.size)).and ((fM h).past w.heap.size)) (λ_ _ h=>h.1.1) rfl ?_
 all_goals rw[nL]
 all_goals simp only[afF,ami,decide_eq_true_eq,decide_eq_false_iff_not,reduceCtorEq,and_false,and_true,or_false,false_or]
 all_goals first|omega|(simp;omega)
theorem acv(w:World)(n:ak)(hn:n.ok w)(at_:Int)(hk:n.ai=4):
 Calls Tryz.prog 79 #[.agg n.cells.toArray,.int .i64 at_] w λe w'=>e= .returned (.bool (cz n at_))/\Ext w w':=by
 have hm:q8 n.ai=some [true,false,true,false,false,true,true]:=by unfold q8;rw[hk];rfl
 obtain⟨a,hbase⟩:=lN hn.az;have nL:cz n at_=cz n at_:=rfl;conv at nL=>rhs;unfold cz
 repeat(first|rw[if_pos aa]at nL|rw[if_neg aa]at nL)
 rw[qP]at nL;simp only[iI]at nL;have hK4:n.az.xs.length=4->h_ n.az.xs=nE 1 n.az.xs:=λh=>by unfold h_;rw[if_pos h]
 have hK0:n.az.xs.length≠4->h_ n.az.xs=0:=λh=>by unfold h_;rw[if_neg h]
 refine fH Tryz.func79 [.agg (vo n),aC at_] ?_;repeat' ((conv=>whnf)<;>first|(refine MX ?_;intro m am hml jW hmn)|refine lg ?_|(refine kV ?_;intro h ah mK hah hhn)|refine j4 ?_|(show gZ ..;(first|(refine bQ (j:=0) (n.a≠0) (λR w' h=>aG mK hah aX) (show 0<7 by decide) rfl ?_ ?_<;>intro _)|refine bJ (j:=0) (λR w' h=>aG hml jW aW) (show 0<7 by decide) ?_|(refine bQ (j:=1) (n.b≠0) (λR w' h=>aG mK hah aX) (show 1<7 by decide) rfl ?_ ?_<;>intro _)|refine bJ (j:=1) (λR w' h=>aG hml jW aW) (show 1<7 by decide) ?_|(refine bQ (j:=2) ((n.az.xs.length:Int)>0) (λR w' h=>aG mK hah aX) (show 2<7 by decide) rfl ?_ ?_<;>intro _)|refine bJ (j:=2) (λR w' h=>aG hml jW aW) (show 2<7 by decide) ?_|(refine bQ (j:=3) (n.lo≠0\/n.hi≠0) (λR w' h=>aG mK hah aX) (show 3<7 by decide) rfl ?_ ?_<;>intro _)|refine bJ (j:=3) (λR w' h=>aG hml jW aW) (show 3<7 by decide) ?_|(refine bQ (j:=4) (n.size≠0) (λR w' h=>aG mK hah aX) (show 4<7 by decide) rfl ?_ ?_<;>intro _)|refine bJ (j:=4) (λR w' h=>aG hml jW aW) (show 4<7 by decide) ?_|(refine bQ (j:=5) ((n.data.xs.length:Int)>0) (λR w' h=>aG mK hah aX) (show 5<7 by decide) rfl ?_ ?_<;>intro _)|refine bJ (j:=5) (λR w' h=>aG hml jW aW) (show 5<7 by decide) ?_|(refine bQ (j:=6) ((n.aQ.xs.length:Int)>0) (λR w' h=>aG mK hah aX) (show 6<7 by decide) rfl ?_ ?_<;>intro _)|refine bJ (j:=6) (λR w' h=>aG hml jW aW) (show 6<7 by decide) ?_|refine dP (j:=0) (λR w' h=>hn.az.at_ (hbase aa) R w' kW) aa ?_))|refine bV ?_|refine ag ?_ ?_<;>intro _)
 refine Wp.rounds 8 ?_;repeat' ((conv=>whnf)<;>first|(refine MX ?_;intro m am hml jW hmn)|refine lg ?_|(refine kV ?_;intro h ah mK hah hhn)|refine j4 ?_|(show gZ ..;(first|(refine bQ (j:=0) (n.a≠0) (λR w' h=>aG mK hah aX) (show 0<7 by decide) rfl ?_ ?_<;>intro _)|refine bJ (j:=0) (λR w' h=>aG hml jW aW) (show 0<7 by decide) ?_|(refine bQ (j:=1) (n.b≠0) (λR w' h=>aG mK hah aX) (show 1<7 by decide) rfl ?_ ?_<;>intro _)|refine bJ (j:=1) (λR w' h=>aG hml jW aW) (show 1<7 by decide) ?_|(refine bQ (j:=2) ((n.az.xs.length:Int)>0) (λR w' h=>aG mK hah aX) (show 2<7 by decide) rfl ?_ ?_<;>intro _)|refine bJ (j:=2) (λR w' h=>aG hml jW aW) (show 2<7 by decide) ?_|(refine bQ (j:=3) (n.lo≠0\/n.hi≠0) (λR w' h=>aG mK hah aX) (show 3<7 by decide) rfl ?_ ?_<;>intro _)|refine bJ (j:=3) (λR w' h=>aG hml jW aW) (show 3<7 by decide) ?_|(refine bQ (j:=4) (n.size≠0) (λR w' h=>aG mK hah aX) (show 4<7 by decide) rfl ?_ ?_<;>intro _)|refine bJ (j:=4) (λR w' h=>aG hml jW aW) (show 4<7 by decide) ?_|(refine bQ (j:=5) ((n.data.xs.length:Int)>0) (λR w' h=>aG mK hah aX) (show 5<7 by decide) rfl ?_ ?_<;>intro _)|refine bJ (j:=5) (λR w' h=>aG hml jW aW) (show 5<7 by decide) ?_|(refine bQ (j:=6) ((n.aQ.xs.length:Int)>0) (λR w' h=>aG mK hah aX) (show 6<7 by decide) rfl ?_ ?_<;>intro _)|refine bJ (j:=6) (λR w' h=>aG hml jW aW) (show 6<7 by decide) ?_|refine dP (j:=0) (λR w' h=>hn.az.at_ (hbase aa) R w' kW) aa ?_))|refine bV ?_|refine ag ?_ ?_<;>intro _)
 all_goals first
  |(refine Wp.loop (σ:=Nat×Int) 1 (λ⟨k,p⟩=>[(106,.c n.az.val),(107,aC n.az.xs.length),(108,aC k),(8,aC p),(2,.lp 0 0 0 0)]) (λ_=>[(0,.box (vo n) 41)]) (λ_=>((aU w).and ((fM m).past w.heap.size)).and ((fM h).past w.heap.size))
     (λs=>s.1<=4/\1<=s.2/\s.2<=64^s.1/\nE 1 n.az.xs=nE s.2 (n.az.xs.drop s.1)) (λs=>4-s.1) (0,1) [] (Tw _) (λs=>⟨rfl,rfl⟩) ⟨by simp,by simp,by simp,rfl⟩ ⟨rfl,⟨rfl,rfl,rfl,rfl,rfl,trivial⟩,⟨YV,trivial⟩,λ_ _ h=>h⟩ ?_
    rintro⟨k,p⟩ ⟨hk4,h1,h64,he⟩;simp only at hk4 h1 h64 he;by_cases hlt:k<n.az.xs.length
    ·rw[drop_at hlt]at he;simp only[nE]at he;have hb:1<=n.az.xs[k]->n.az.xs[k]<=64->1<=p*n.az.xs[k]/\p*n.az.xs[k]<=64^(k+1)/\p*n.az.xs[k]<=16777216:=λg1 g2=>by
      have g3:p*n.az.xs[k]<=64^k*64:=ag8 h64 g2 aa aa;have g4:p*1<=p*n.az.xs[k]:=ai6 g1 aa;have g5:(64:Int)^k*64=64^(k+1):=(Int.pow_succ 64 k).symm;have g6:(64:Int)^(k+1)<=16777216:=by
       have:k=0\/k=1\/k=2\/k=3:=by omega
       rcases this with rfl|rfl|rfl|rfl<;>decide
      omega
     have hbad:(n.az.xs[k]<1\/n.az.xs[k]>64)->h_ n.az.xs=0:=λg=>by rw[hK4 aa,he,if_pos g]
     repeat' ((conv=>whnf)<;>first|refine aM a k (hbase aa) rfl hlt ?_|(show gZ ..;refine bN (λR w' h=>hn.az.at_ (hbase aa) R w' h.1.1) _ _ (eO hlt) rfl ?_)|refine wrap_i64 sQ sQ ?_|refine bV ?_|refine ag ?_ ?_<;>intro _)
     ·conv=>whnf
      refine bq (B:=⟨w,[]⟩) (S:=((aU w).and ((fM m).past w.heap.size)).and ((fM h).past w.heap.size)) (λ_ _ h=>h.1.1) rfl ?_;rw[nL];simp only[afF,ami,decide_eq_true_eq,decide_eq_false_iff_not,reduceCtorEq,and_false,and_true,or_false,false_or];omega
     ·conv=>whnf
      refine bq (B:=⟨w,[]⟩) (S:=((aU w).and ((fM m).past w.heap.size)).and ((fM h).past w.heap.size)) (λ_ _ h=>h.1.1) rfl ?_;rw[nL];simp only[afF,ami,decide_eq_true_eq,decide_eq_false_iff_not,reduceCtorEq,and_false,and_true,or_false,false_or];omega
     ·rw[if_neg aa]at he;have:=hb aa aa;exact⟨(k+1,p*n.az.xs[k]),[],⟨by simp only;omega,this.1,this.2.1,he⟩,by simp only;omega,rfl,fE,⟨YV,trivial⟩,λ_ _ h=>h⟩
    ·have hkl:n.az.xs.drop k=[]:=amC aa;rw[hkl]at he;have hp:h_ n.az.xs=p:=by rw[hK4 aa,he];rfl
     repeat' ((conv=>whnf)<;>first|refine j4 ?_|(show gZ ..;refine dP (j:=0) (λR w' h=>hn.az.at_ (hbase aa) R w' h.1.1) aa ?_)|refine bV ?_|refine ag ?_ ?_<;>intro _)
     all_goals(conv=>whnf)
     all_goals refine bq (B:=⟨w,[]⟩) (S:=((aU w).and ((fM m).past w.heap.size)).and ((fM h).past w.heap.size)) (λ_ _ h=>h.1.1) rfl ?_
     all_goals rw[nL]
     all_goals simp only[afF,ami,decide_eq_true_eq,decide_eq_false_iff_not,reduceCtorEq,and_false,and_true,or_false,false_or]
     all_goals omega)
  |(conv=>whnf
    refine bq (B:=⟨w,[]⟩) (S:=((aU w).and ((fM m).past w.heap.size)).and ((fM h).past w.heap.size)) (λ_ _ h=>h.1.1) rfl ?_;rw[nL];simp only[afF,ami,decide_eq_true_eq,decide_eq_false_iff_not,reduceCtorEq,and_false,and_true,or_false,false_or];first|omega|(simp;omega))
theorem Uf(w:World)(n:ak)(at_:Int)(hm:q8 n.ai=none):
 Calls Tryz.prog 79 #[.agg n.cells.toArray,.int .i64 at_] w λe w'=>e= .returned (.bool (cz n at_))/\Ext w w':=by
 have nL:cz n at_=false:=by
  unfold q8 at hm;unfold cz;have h1:n.ai≠1:=λh=>by rw[if_pos h]at hm;cases hm
  rw[if_neg h1]at hm;have h2:n.ai≠2:=λh=>by rw[if_pos h]at hm;cases hm
  rw[if_neg h2]at hm;have h3:n.ai≠3:=λh=>by rw[if_pos h]at hm;cases hm
  rw[if_neg h3]at hm;have h4:n.ai≠4:=λh=>by rw[if_pos h]at hm;cases hm
  rw[if_neg h4]at hm;have h5:n.ai≠5:=λh=>by rw[if_pos h]at hm;cases hm
  rw[if_neg h5]at hm;have h6:n.ai≠6:=λh=>by rw[if_pos h]at hm;cases hm
  rw[if_neg h6]at hm;have h7:n.ai≠7:=λh=>by rw[if_pos h]at hm;cases hm
  rw[if_neg h7]at hm;have h8:n.ai≠8:=λh=>by rw[if_pos h]at hm;cases hm
  rw[if_neg h8]at hm;have h9:n.ai≠9:=λh=>by rw[if_pos h]at hm;cases hm
  rw[if_neg h1,if_neg h2,if_neg h3,if_neg h4,if_neg h5,if_neg h6,if_neg h7,if_neg h8,if_neg h9]
 refine fH Tryz.func79 [.agg (vo n),aC at_] ?_;repeat' ((conv=>whnf)<;>first|(show aJ _ 133 ..;refine aR (f:=133) Tryz.call133 _ (λρ w' hw=>agr w' n.ai hm) ?_)|(show mi ..;refine Eo (ti 165 rfl) rfl ?_)|refine bV ?_)
 exact bq (λ_ _ h=>h) rfl nL
theorem Xu(w:World)(n:ak)(hn:n.ok w)(at_:Int):
 Calls Tryz.prog 79 #[.agg n.cells.toArray,.int .i64 at_] w λe w'=>e= .returned (.bool (cz n at_))/\Ext w w':=by
 by_cases h1:n.ai=1
 ·exact ad6 w n hn at_ h1
 by_cases h2:n.ai=2
 ·exact adf w n hn at_ h2
 by_cases h3:n.ai=3
 ·exact ac2 w n hn at_ h3
 by_cases h4:n.ai=4
 ·exact acv w n hn at_ h4
 by_cases h5:n.ai=5
 ·exact acI w n hn at_ h5
 by_cases h6:n.ai=6
 ·exact ac7 w n hn at_ h6
 by_cases h7:n.ai=7
 ·exact ac9 w n hn at_ h7
 by_cases h8:n.ai=8
 ·exact adG w n hn at_ h8
 by_cases h9:n.ai=9
 ·exact ads w n hn at_ h9
 ·exact Uf w n at_ (by unfold q8;simp only[h1,h2,h3,h4,h5,h6,h7,h8,h9,if_false])
end Go.Proofs.YtgndjjdeopfdkaaGreat
