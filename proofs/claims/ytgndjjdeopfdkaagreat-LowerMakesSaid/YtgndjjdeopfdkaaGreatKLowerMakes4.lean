import Derived.Test.YtgndjjdeopfdkaaGreatProg
import Derived.Test.YtgndjjdeopfdkaaGreatKLowerMakes3
/- texts GA GN of the proof of LowerMakesSaid -/
set_option maxHeartbeats 16000000
set_option maxRecDepth 20000
set_option linter.unusedVariables false
set_option linter.unusedSimpArgs false
namespace Go.Proofs.YtgndjjdeopfdkaaGreat
open Go.SX
def tab:List (Nat×TI):=
 [(2,⟨1,false,6,0,8,.i64,[],true,[.int .i64 0]⟩),
  (3,⟨1,false,6,0,8,.i64,[],true,[.int .i64 0]⟩),
  (4,⟨1,false,5,0,1,.i64,[],true,[.bool false]⟩),
  (5,⟨1,false,6,0,1,.u8,[],true,[.int .u8 0]⟩),
  (9,⟨1,false,4,0,16,.i64,[],true,[.string .empty]⟩),
  (20,⟨1,false,9,0,16,.i64,[],true,[.nilIface]⟩),
  (22,⟨1,false,1,41,24,.i64,[],true,[.slice none 0 0]⟩),
  (24,⟨2,true,3,0,32,.i64,[(0,1,0),(1,1,0)],true,[.slice none 0 0,.int .i64 0]⟩),
  (26,⟨5,true,3,0,24,.i64,[(0,1,0),(1,1,0),(2,1,0),(3,1,0),(4,1,0)],true,[.int .i64 0,.bool false,.bool false,.bool false,.int .i64 0]⟩),
  (29,⟨1,false,1,92,24,.i64,[],true,[.slice none 0 0]⟩),
  (30,⟨1,false,1,32,24,.i64,[],true,[.slice none 0 0]⟩),
  (31,⟨1,false,1,43,24,.i64,[],true,[.slice none 0 0]⟩),
  (32,⟨1,false,1,3,24,.i64,[],true,[.slice none 0 0]⟩),
  (34,⟨6,true,3,0,112,.i64,[(0,1,0),(1,1,0),(2,1,0),(3,1,0),(4,1,0),(5,1,0)],true,[.int .i64 0,.slice none 0 0,.slice none 0 0,.slice none 0 0,.int .i64 0,.slice none 0 0]⟩),
  (35,⟨1,false,6,0,8,.i64,[],true,[.int .i64 0]⟩),
  (41,⟨9,true,3,0,120,.i64,[(0,1,0),(1,1,0),(2,1,0),(3,1,0),(4,1,0),(5,1,0),(6,1,0),(7,1,0),(8,1,0)],true,[.int .i64 0,.int .i64 0,.int .i64 0,.slice none 0 0,.int .i64 0,.int .i64 0,.int .i64 0,.slice none 0 0,.slice none 0 0]⟩),
  (43,⟨5,true,3,0,40,.i64,[(0,1,0),(1,1,0),(2,1,0),(3,1,0),(4,1,0)],true,[.int .i64 0,.int .i64 0,.int .i64 0,.int .i64 0,.int .i64 0]⟩),
  (45,⟨1,false,1,5,24,.i64,[],true,[.slice none 0 0]⟩),
  (47,⟨1,false,7,49,8,.i64,[],true,[.pointer none]⟩),
  (49,⟨2,true,3,0,32,.i64,[(0,1,0),(1,1,0)],true,[.slice none 0 0,.int .i64 0]⟩),
  (54,⟨1,false,1,58,24,.i64,[],true,[.slice none 0 0]⟩),
  (58,⟨2,true,3,0,16,.i64,[(0,1,0),(1,1,0)],true,[.int .i64 0,.int .i64 0]⟩),
  (59,⟨1,false,6,0,8,.u64,[],true,[.int .u64 0]⟩),
  (69,⟨1,false,7,71,8,.i64,[],true,[.pointer none]⟩),
  (71,⟨10,true,3,0,192,.i64,[(0,6,1),(6,1,0),(7,1,0),(8,1,0),(9,1,0)],true,[.int .i64 0,.slice none 0 0,.slice none 0 0,.slice none 0 0,.int .i64 0,.slice none 0 0,.bool false,.slice none 0 0,.slice none 0 0,.slice none 0 0]⟩),
  (74,⟨1,false,0,0,8,.i64,[],true,[.nilFunc]⟩),
  (77,⟨1,false,7,79,8,.i64,[],true,[.pointer none]⟩),
  (79,⟨7,true,3,0,120,.i64,[(0,6,1),(6,1,0)],true,[.int .i64 0,.slice none 0 0,.slice none 0 0,.slice none 0 0,.int .i64 0,.slice none 0 0,.bool false]⟩),
  (84,⟨1,false,0,0,8,.i64,[],true,[.nilFunc]⟩),
  (89,⟨1,false,1,59,24,.i64,[],true,[.slice none 0 0]⟩),
  (92,⟨3,true,3,0,40,.i64,[(0,1,0),(1,1,0),(2,1,0)],true,[.int .i64 0,.int .i64 0,.slice none 0 0]⟩),
  (93,⟨1,false,7,96,8,.i64,[],true,[.pointer none]⟩),
  (94,⟨1,false,1,89,24,.i64,[],true,[.slice none 0 0]⟩),
  (96,⟨9,true,3,0,168,.i64,[(0,6,1),(6,1,0),(7,1,0),(8,1,0)],true,[.int .i64 0,.slice none 0 0,.slice none 0 0,.slice none 0 0,.int .i64 0,.slice none 0 0,.int .u64 0,.slice none 0 0,.slice none 0 0]⟩),
  (97,⟨1,false,0,0,8,.i64,[],true,[.nilFunc]⟩),
  (101,⟨1,false,0,0,8,.i64,[],true,[.nilFunc]⟩),
  (102,⟨1,false,0,0,8,.i64,[],true,[.nilFunc]⟩),
  (104,⟨12,true,3,0,160,.i64,[(0,9,1),(9,1,0),(10,1,0),(11,1,0)],true,[.int .i64 0,.int .i64 0,.int .i64 0,.slice none 0 0,.int .i64 0,.int .i64 0,.int .i64 0,.slice none 0 0,.slice none 0 0,.slice none 0 0,.nilFunc,.int .i64 0]⟩),
  (106,⟨1,false,7,108,8,.i64,[],true,[.pointer none]⟩),
  (108,⟨3,true,3,0,56,.i64,[(0,2,1),(2,1,0)],true,[.slice none 0 0,.int .i64 0,.slice none 0 0]⟩),
  (109,⟨1,false,0,0,8,.i64,[],true,[.nilFunc]⟩),
  (110,⟨1,false,1,109,24,.i64,[],true,[.slice none 0 0]⟩),
  (112,⟨1,false,8,0,8,.i64,[],true,[.map none]⟩),
  (115,⟨11,true,3,0,152,.i64,[(0,9,1),(9,1,0),(10,1,0)],true,[.int .i64 0,.int .i64 0,.int .i64 0,.slice none 0 0,.int .i64 0,.int .i64 0,.int .i64 0,.slice none 0 0,.slice none 0 0,.int .i64 0,.slice none 0 0]⟩),
  (123,⟨1,false,0,0,8,.i64,[],true,[.nilFunc]⟩),
  (127,⟨1,false,7,129,8,.i64,[],true,[.pointer none]⟩),
  (129,⟨3,true,3,0,24,.i64,[(0,1,0),(1,1,0),(2,1,0)],true,[.pointer none,.int .i64 0,.bool false]⟩),
  (137,⟨1,false,0,0,8,.i64,[],true,[.nilFunc]⟩),
  (146,⟨1,false,0,0,8,.i64,[],true,[.nilFunc]⟩),
  (148,⟨1,false,6,0,8,.u64,[],true,[.int .u64 0]⟩),
  (149,⟨1,false,0,0,8,.i64,[],true,[.nilFunc]⟩),
  (150,⟨1,false,1,152,24,.i64,[],true,[.slice none 0 0]⟩),
  (152,⟨2,true,3,0,16,.i64,[(0,1,0),(1,1,0)],true,[.int .i64 0,.int .i64 0]⟩),
  (154,⟨1,false,0,0,8,.i64,[],true,[.nilFunc]⟩),
  (156,⟨1,false,0,0,8,.i64,[],true,[.nilFunc]⟩),
  (158,⟨10,true,3,0,144,.i64,[(0,9,1),(9,1,0)],true,[.int .i64 0,.int .i64 0,.int .i64 0,.slice none 0 0,.int .i64 0,.int .i64 0,.int .i64 0,.slice none 0 0,.slice none 0 0,.slice none 0 0]⟩),
  (159,⟨1,false,0,0,8,.i64,[],true,[.nilFunc]⟩),
  (161,⟨1,false,8,0,8,.i64,[],true,[.map none]⟩),
  (165,⟨1,false,1,4,24,.i64,[],true,[.slice none 0 0]⟩),
  (175,⟨1,false,0,0,8,.i64,[],true,[.nilFunc]⟩),
  (179,⟨3,true,3,0,24,.i64,[(0,1,0),(1,1,0),(2,1,0)],true,[.int .i64 0,.int .i64 0,.int .i64 0]⟩),
  (182,⟨1,false,0,0,8,.i64,[],true,[.nilFunc]⟩),
  (183,⟨1,false,0,0,8,.i64,[],true,[.nilFunc]⟩),
  (189,⟨1,false,9,0,16,.i64,[],true,[.nilIface]⟩),
  (196,⟨1,false,6,0,8,.i64,[],true,[.int .i64 0]⟩),
  (203,⟨1,false,6,0,4,.u32,[],true,[.int .u32 0]⟩),
  (204,⟨1,false,6,0,8,.u64,[],true,[.int .u64 0]⟩),
  (208,⟨1,false,7,3,8,.i64,[],true,[.pointer none]⟩),
  (210,⟨1,false,7,204,8,.i64,[],true,[.pointer none]⟩)]
theorem bQ:∀p∈tab,lV Tryz.prog p.1=some p.2:=by
 have h:tab.map (λp=>lV Tryz.prog p.1)=tab.map (λp=>some p.2):=by kernel_rfl
 intro p hp
 obtain⟨i,hi⟩:=List.getElem?_of_mem hp
 have h1:=congrArg (λl=>l[i]?) h
 simp only[List.getElem?_map,hi,Option.map_some,Option.some.injEq]at h1
 exact h1
def fF:Int->List Int->Int
 |n,[]=>n
 |n,d::r=>if d<1\/d>64/n then 0 else fF (n*d) r
@[irreducible] def az (xs:List Int):Int:=if xs.length<1\/3<xs.length then 0 else fF 1 xs
theorem drop_at{α:Type}{xs:List α}{k:Nat}(h:k<xs.length):xs.drop k=xs[k]::xs.drop (k+1):=List.drop_eq_getElem_cons h
theorem nJ(w:World)(sb:Option Addr)(sc:Nat)(xs:List Int)(hx:bu w sb 1 (aN xs)):
 Calls Tryz.prog 61 #[.slice sb xs.length sc] w λe w'=>e= .returned (.int .i64 (az xs))/\Ext w w':=by
 by_cases hl:xs.length<1\/3<xs.length
 ·have hs:az xs=0:=by unfold az;rw[if_pos hl]
  rw[hs]
  refine fH Tryz.func61 [.c (.slice sb xs.length sc)] ?_
  repeat' ((conv=>whnf)<;>first|refine aX ?_|refine ag ?_ ?_<;>intro _)
  all_goals exact dH λρ w' hw=>⟨rfl,aZ hw (λ_ _ h=>h)⟩
 ·have hs:az xs=fF 1 xs:=by unfold az;rw[if_neg hl]
  rw[hs]
  refine fH Tryz.func61 [.c (.slice sb xs.length sc)] ?_
  repeat' ((conv=>whnf)<;>first|refine aX ?_|refine ag ?_ ?_<;>intro _)
  obtain⟨a,rfl⟩:∃a,sb=some a:=aP (j:=0) hx vK
  refine Wp.loop (σ:=Nat×Int) 0 (λ⟨k,n⟩=>[(14,.c (.slice (some a) xs.length sc)),(15,ax xs.length),(16,ax k),(3,ax n)]) (λ_=>[]) (λ_=>aO w)
   (λs=>s.1<=xs.length/\1<=s.2/\s.2<=64/\fF 1 xs=fF s.2 (xs.drop s.1)) (λs=>xs.length-s.1) (0,1) [] (Nat.le_refl _) (λs=>⟨rfl,rfl⟩) ⟨by simp,by simp,by simp,rfl⟩ ⟨rfl,⟨rfl,rfl,rfl,rfl,trivial⟩,trivial,λ_ _ h=>h⟩ ?_
  rintro⟨k,n⟩ ⟨hk,h1,h64,he⟩
  simp only at hk h1 h64 he
  by_cases hlt:k<xs.length
  ·rw[drop_at hlt]at he
   simp only[fF]at he
   have hdiv:64/n<=64:=Int.ediv_le_self _ aa
   have hmul:1<=xs[k]->xs[k]<=64/n->1<=n*xs[k]/\n*xs[k]<=64:=λg1 g2=>by
    have g3:xs[k]*n<=64:=Int.le_trans (Int.mul_le_mul_of_nonneg_right g2 aa) (Int.ediv_mul_le _ aa)
    have g4:n*1<=n*xs[k]:=Int.mul_le_mul_of_nonneg_left g1 aa
    rw[Int.mul_comm]at g3
    omega
   repeat' ((conv=>whnf)<;>first|refine aH a k rfl rfl hlt ?_|refine bA (λR w' h=>aA h hx) _ _ (eH hlt) rfl ?_|refine div_pos rfl aa aa aa ?_|refine wrap_i64 (by have:=hmul aa aa;omega) (by have:=hmul aa aa;omega) ?_|refine aX ?_|refine ag ?_ ?_<;>intro _)
   ·rw[if_pos (.inl aa)]at he
    rw[he]
    exact dH λρ w' hw=>⟨rfl,aZ hw (λ_ _ h=>h)⟩
   ·rw[if_pos (.inr aa)]at he
    rw[he]
    exact dH λρ w' hw=>⟨rfl,aZ hw (λ_ _ h=>h)⟩
   ·rw[if_neg aa]at he
    have:=hmul aa aa
    exact⟨(k+1,n*xs[k]),[],⟨hlt,this.1,this.2,he⟩,by simp only;omega,rfl,bM,trivial,λ_ _ h=>h⟩
  ·have hkl:xs.drop k=[]:=by simp;omega
   rw[hkl]at he
   rw[he]
   repeat' ((conv=>whnf)<;>first|refine aX ?_|refine ag ?_ ?_<;>intro _)
   exact dH λρ w' hw=>⟨rfl,aZ hw (λ_ _ h=>h)⟩
theorem wF{n d:Int}(h1:1<=n)(hd:1<=d):(d>64/n)↔(n*d>64):=by
 constructor
 ·intro h
  have:64<n*d:=by
   have h2:=Int.lt_mul_of_ediv_lt (by omega:(0:Int)<n) h
   rwa[Int.mul_comm]at h2
  omega
 ·intro h
  have h2:64<d*n:=by rw[Int.mul_comm];omega
  exact Int.ediv_lt_of_lt_mul aa h2
theorem jq(w:World)(sb:Option Addr)(sc:Nat)(xs:List Int)(hx:bu w sb 1 (aN xs)):
 Calls Tryz.prog 42 #[.slice sb xs.length sc] w λe w'=>e= .returned (.int .i64 (az xs))/\Ext w w':=by
 by_cases hl:xs.length<1\/3<xs.length
 ·have hs:az xs=0:=by unfold az;rw[if_pos hl]
  rw[hs]
  refine fH Tryz.func42 [.c (.slice sb xs.length sc)] ?_
  repeat' ((conv=>whnf)<;>first|refine aX ?_|refine ag ?_ ?_<;>intro _)
  all_goals exact dH λρ w' hw=>⟨rfl,aZ hw (λ_ _ h=>h)⟩
 ·have hs:az xs=fF 1 xs:=by unfold az;rw[if_neg hl]
  rw[hs]
  refine fH Tryz.func42 [.c (.slice sb xs.length sc)] ?_
  repeat' ((conv=>whnf)<;>first|refine aX ?_|refine ag ?_ ?_<;>intro _)
  obtain⟨a,rfl⟩:∃a,sb=some a:=aP (j:=0) hx vK
  refine Wp.loop (σ:=Nat×Int) 0 (λ⟨k,n⟩=>[(14,.c (.slice (some a) xs.length sc)),(15,ax xs.length),(16,ax k),(3,ax n)]) (λ_=>[]) (λ_=>aO w)
   (λs=>s.1<=xs.length/\1<=s.2/\s.2<=64/\fF 1 xs=fF s.2 (xs.drop s.1)) (λs=>xs.length-s.1) (0,1) [] (Nat.le_refl _) (λs=>⟨rfl,rfl⟩) ⟨by simp,by simp,by simp,rfl⟩ ⟨rfl,⟨rfl,rfl,rfl,rfl,trivial⟩,trivial,λ_ _ h=>h⟩ ?_
  rintro⟨k,n⟩ ⟨hk,h1,h64,he⟩
  simp only at hk h1 h64 he
  by_cases hlt:k<xs.length
  ·rw[drop_at hlt]at he
   simp only[fF]at he
   have hb:1<=xs[k]->xs[k]<=64->1<=n*xs[k]/\n*xs[k]<=4096:=λg1 g2=>by
    have g3:n*xs[k]<=64*64:=Int.mul_le_mul h64 g2 aa aa
    have g4:n*1<=n*xs[k]:=Int.mul_le_mul_of_nonneg_left g1 aa
    omega
   have hq:xs[k]>64->1<=xs[k]->n*xs[k]>64:=λg1 g2=>by
    have g4:1*xs[k]<=n*xs[k]:=Int.mul_le_mul_of_nonneg_right h1 aa
    omega
   repeat' ((conv=>whnf)<;>first|refine aH a k rfl rfl hlt ?_|refine bA (λR w' h=>aA h hx) _ _ (eH hlt) rfl ?_|refine wrap_i64 RH RH ?_|refine aX ?_|refine ag ?_ ?_<;>intro _)
   ·rw[if_pos (.inl aa)]at he
    rw[he]
    exact dH λρ w' hw=>⟨rfl,aZ hw (λ_ _ h=>h)⟩
   ·rw[if_pos (.inr ((wF h1 aa).2 (hq aa aa)))]at he
    rw[he]
    exact dH λρ w' hw=>⟨rfl,aZ hw (λ_ _ h=>h)⟩
   ·rw[if_pos (.inr ((wF h1 aa).2 aa))]at he
    rw[he]
    exact dH λρ w' hw=>⟨rfl,aZ hw (λ_ _ h=>h)⟩
   ·rename_i h5 h6
    have hn:¬(xs[k]<1\/xs[k]>64/n):=by
     rintro(h|h)
     ·omega
     ·have:=(wF h1 aa).1 h;omega
    rw[if_neg hn]at he
    have:=hb aa aa
    exact⟨(k+1,n*xs[k]),[],⟨hlt,this.1,by simp only;omega,he⟩,by simp only;omega,rfl,bM,trivial,λ_ _ h=>h⟩
  ·have hkl:xs.drop k=[]:=by simp;omega
   rw[hkl]at he
   rw[he]
   repeat' ((conv=>whnf)<;>first|refine aX ?_|refine ag ?_ ?_<;>intro _)
   exact dH λρ w' hw=>⟨rfl,aZ hw (λ_ _ h=>h)⟩
section
theorem ti(t:Nat){i:TI}(h:tab.find? (λp=>Nat.beq p.1 t)=some (t,i)):lV Tryz.prog t=some i:=bQ (t,i) (List.mem_of_find?_eq_some h)
theorem mixed:Tryz.prog.follows .mixedOrders=true:=by kernel_rfl
variable {B:Base} {H:Heap} {S:bN} {nx:Nat} {w:World}
theorem cz{v:SV}{val:Value}(hb:∀R w',S.holds R w'->(aO B.w0).holds R w')(hv:∀ρ,v.rf ρ=val)(hw0:B.w0=w):jI B v H S nx (λe w'=>e= .returned val/\Ext w w'):=by
 subst hw0
 exact dH λρ w' hw=>⟨by rw[hv],aZ hw hb⟩
variable {k:Nat} {xs:List (List Value)}
theorem mQ{a:Addr}{m:Nat}{K:List (List Value)->Prop}(hm:xs.length=m)(hS:∀R w,S.holds R w->bu w (some a) k xs)(hx:∀r∈xs,r.length=k/\∀v∈r,v.oneCell'=true)(h:K xs):uA a m k S K:=by
 rw[Gp]
 refine⟨xs,hm,hx,λR w hw i r hi j v hj=> ?_,h⟩
 rcases hS R w hw with h0|⟨a',ha,h1⟩
 ·subst h0;simp at hi
 ·obtain rfl:a=a':=by simpa using ha
  exact h1 i r hi j v hj
theorem xS{i n:Nat}{T:TypeId}(hb:∀R w',S.holds R w'->(aO B.w0).holds R w')(hw0:B.w0=w)(he:(i,bZ.rows xs k T)∈H)(hn:n=xs.length):
 jI B (.os i n) H S nx (λe w'=>∃v,e= .returned v/\Ext w w'/\kv w w' v k T xs):=by
 subst hw0 hn
 exact dH λρ w' hw=>⟨_,rfl,aZ hw hb,dK hw hb he⟩
theorem bf{b:Bool}{c:Bool}(hb:∀R w',S.holds R w'->(aO B.w0).holds R w')(hw0:B.w0=w)(h:c=b):jI B (.c (.bool b)) H S nx (λe w'=>e= .returned (.bool c)/\Ext w w'):=
 cz hb (λ_=>by rw[h];rfl) hw0
structure au where
 base:Option Addr
 cap:Nat
 xs:List Int
def au.val(v:au):Value:= .slice v.base v.xs.length v.cap
structure au.ok(w:World)(v:au):Prop where
 rows:bu w v.base 1 (aN v.xs)
 fits:∀x∈v.xs,-9223372036854775808<=x/\x<=9223372036854775807
 room:v.xs.length<=v.cap
 few:v.xs.length<=1000000
theorem au.ok.base{w:World}{v:au}(h:v.ok w)(hl:0<v.xs.length):∃a,v.base=some a:=aP (j:=0) h.rows (by rw[aJ];exact hl)
theorem Nt{xs ys:List Int}(hx:k<xs.length)(hy:k<ys.length)(h:xs.take k=ys.take k)(he:xs[k]=ys[k]):xs.take (k+1)=ys.take (k+1):=by
 rw[List.take_succ_eq_append_getElem hx,List.take_succ_eq_append_getElem hy,h,he]
theorem qK(w:World)(x y:au)(hx:x.ok w)(hy:y.ok w):
 Calls Tryz.prog 20 #[x.val,y.val] w λe w'=>e= .returned (.bool (decide (x.xs=y.xs)))/\Ext w w':=by
 obtain⟨ab,ac,xs⟩:=x
 obtain⟨bb,bc,ys⟩:=y
 obtain⟨hx,_,_,oz⟩:=hx
 obtain⟨hy,_,_,_⟩:=hy
 simp only[au.val]at*
 refine fH Tryz.func20 [.c (.slice ab xs.length ac),.c (.slice bb ys.length bc)] ?_
 repeat' ((conv=>whnf)<;>first|refine bn ?_|refine ag ?_ ?_<;>intro _)
 ·exact bf (λ_ _ h=>h) rfl (decide_eq_false (λh=>by subst h;omega))
 rename_i hne
 refine Wp.loop (σ:=Nat) 0 (λk=>[(0,.c (.slice ab xs.length ac)),(1,.c (.slice bb ys.length bc)),(12,ax xs.length),(13,ax k)]) (λ_=>[]) (λ_=>aO w)
  (λk=>k<=xs.length/\xs.take k=ys.take k) (λk=>xs.length-k) 0 [] (Nat.le_refl _) (λs=>⟨rfl,rfl⟩) ⟨by simp,by simp⟩ ⟨rfl,⟨rfl,rfl,rfl,rfl,trivial⟩,trivial,λ_ _ h=>h⟩ ?_
 rintro k ⟨hk,he⟩
 by_cases hlt:k<xs.length
 ·have hlt2:k<ys.length:=by omega
  obtain⟨a,rfl⟩:∃a,ab=some a:=aP (j:=k) hx vK
  obtain⟨b,rfl⟩:∃a,bb=some a:=aP (j:=k) hy vK
  repeat' ((conv=>whnf)<;>first|refine yP bQ mixed ji ?_|refine aH a k rfl rfl hlt ?_|refine aH b k rfl rfl hlt2 ?_|refine bA (λR w' h=>aA h hx) _ _ (eH hlt) rfl ?_|refine bA (λR w' h=>aA h hy) _ _ (eH hlt2) rfl ?_|refine bn ?_|refine ag ?_ ?_<;>intro _)
  ·exact bf (λ_ _ h=>h) rfl (decide_eq_false (λh=>by subst h;omega))
  ·rename_i h5
   exact⟨k+1,[],⟨hlt,Nt hlt hlt2 he aa⟩,by omega,rfl,bM,trivial,λ_ _ h=>h⟩
 ·have hxy:xs=ys:=by rw[List.take_of_length_le aa,List.take_of_length_le aa]at he;exact he
  repeat' ((conv=>whnf)<;>first|refine bn ?_|refine ag ?_ ?_<;>intro _)
  exact bf (λ_ _ h=>h) rfl (decide_eq_true hxy)
theorem q8(w:World)(x y:au)(hx:x.ok w)(hy:y.ok w):
 Calls Tryz.prog 62 #[x.val,y.val] w λe w'=>e= .returned (.bool (decide (x.xs=y.xs)))/\Ext w w':=by
 obtain⟨ab,ac,xs⟩:=x
 obtain⟨bb,bc,ys⟩:=y
 obtain⟨hx,_,_,oz⟩:=hx
 obtain⟨hy,_,_,_⟩:=hy
 simp only[au.val]at*
 refine fH Tryz.func62 [.c (.slice ab xs.length ac),.c (.slice bb ys.length bc)] ?_
 repeat' ((conv=>whnf)<;>first|refine bn ?_|refine ag ?_ ?_<;>intro _)
 ·exact bf (λ_ _ h=>h) rfl (decide_eq_false (λh=>by subst h;omega))
 rename_i hne
 refine Wp.loop (σ:=Nat) 0 (λk=>[(0,.c (.slice ab xs.length ac)),(1,.c (.slice bb ys.length bc)),(12,ax xs.length),(13,ax k)]) (λ_=>[]) (λ_=>aO w)
  (λk=>k<=xs.length/\xs.take k=ys.take k) (λk=>xs.length-k) 0 [] (Nat.le_refl _) (λs=>⟨rfl,rfl⟩) ⟨by simp,by simp⟩ ⟨rfl,⟨rfl,rfl,rfl,rfl,trivial⟩,trivial,λ_ _ h=>h⟩ ?_
 rintro k ⟨hk,he⟩
 by_cases hlt:k<xs.length
 ·have hlt2:k<ys.length:=by omega
  obtain⟨a,rfl⟩:∃a,ab=some a:=aP (j:=k) hx vK
  obtain⟨b,rfl⟩:∃a,bb=some a:=aP (j:=k) hy vK
  repeat' ((conv=>whnf)<;>first|refine yP bQ mixed ji ?_|refine aH a k rfl rfl hlt ?_|refine aH b k rfl rfl hlt2 ?_|refine bA (λR w' h=>aA h hx) _ _ (eH hlt) rfl ?_|refine bA (λR w' h=>aA h hy) _ _ (eH hlt2) rfl ?_|refine bn ?_|refine ag ?_ ?_<;>intro _)
  ·exact bf (λ_ _ h=>h) rfl (decide_eq_false (λh=>by subst h;omega))
  ·rename_i h5
   exact⟨k+1,[],⟨hlt,Nt hlt hlt2 he aa⟩,by omega,rfl,bM,trivial,λ_ _ h=>h⟩
 ·have hxy:xs=ys:=by rw[List.take_of_length_le aa,List.take_of_length_le aa]at he;exact he
  repeat' ((conv=>whnf)<;>first|refine bn ?_|refine ag ?_ ?_<;>intro _)
  exact bf (λ_ _ h=>h) rfl (decide_eq_true hxy)
end
def qz(xs:List Int):Bool:=xs.all λv=>decide (-1048576<=v/\v<=1048576)
theorem Ap(w:World)(x:au)(hx:x.ok w):
 Calls Tryz.prog 81 #[x.val] w λe w'=>e= .returned (.bool (qz x.xs))/\Ext w w':=by
 obtain⟨ab,ac,xs⟩:=x
 obtain⟨hx,_,_,oz⟩:=hx
 simp only[au.val]at*
 refine fH Tryz.func81 [.c (.slice ab xs.length ac)] ?_
 repeat' ((conv=>whnf)<;>first|refine aX ?_|refine ag ?_ ?_<;>intro _)
 refine Wp.loop (σ:=Nat) 0 (λk=>[(5,.c (.slice ab xs.length ac)),(6,ax xs.length),(7,ax k)]) (λ_=>[]) (λ_=>aO w)
  (λk=>k<=xs.length/\qz xs=qz (xs.drop k)) (λk=>xs.length-k) 0 [] (Nat.le_refl _) (λs=>⟨rfl,rfl⟩) ⟨by simp,by simp⟩ ⟨rfl,⟨rfl,rfl,rfl,trivial⟩,trivial,λ_ _ h=>h⟩ ?_
 rintro k ⟨hk,he⟩
 by_cases hlt:k<xs.length
 ·obtain⟨a,rfl⟩:∃a,ab=some a:=aP (j:=k) hx vK
  rw[drop_at hlt]at he
  simp only[qz,List.all_cons]at he
  repeat' ((conv=>whnf)<;>first|refine aH a k rfl rfl hlt ?_|refine bA (λR w' h=>aA h hx) _ _ (eH hlt) rfl ?_|refine aX ?_|refine ag ?_ ?_<;>intro _)
  ·exact bf (λ_ _ h=>h) rfl ahI
  ·exact bf (λ_ _ h=>h) rfl ahI
  ·rw[decide_eq_true (p:= -1048576<=xs[k]/\xs[k]<=1048576) aa,Bool.true_and]at he
   exact⟨k+1,[],⟨hlt,he⟩,by omega,rfl,bM,trivial,λ_ _ h=>h⟩
 ·rw[List.drop_of_length_le (show xs.length<=k by omega)]at he
  repeat' ((conv=>whnf)<;>first|refine aX ?_|refine ag ?_ ?_<;>intro _)
  exact bf (λ_ _ h=>h) rfl (by rw[he];rfl)
def foldI(f:Int->Int->Int):List Int->Int
 |[]=>0
 |x::r=>r.foldl f x
theorem Me{f:Int->Int->Int}{xs:List Int}{k:Nat}(h:k<xs.length)(h0:0<k):foldI f (xs.take (k+1))=f (foldI f (xs.take k)) xs[k]:=by
 rw[List.take_succ_eq_append_getElem h]
 obtain⟨x,r,e⟩:∃x r,xs.take k=x::r:=by
  cases hx:xs.take k with
  |nil=>have:=congrArg List.length hx;rw[List.length_take,List.length_nil]at this;omega
  |cons x r=>exact⟨x,r,rfl⟩
 rw[e]
 simp[foldI]
theorem PO(w:World)(x:au)(hx:x.ok w)(hl:1<=x.xs.length):
 Calls Tryz.prog 53 #[x.val] w λe w'=>e= .returned (.int .i64 (foldI max x.xs))/\Ext w w':=by
 obtain⟨ab,ac,xs⟩:=x
 obtain⟨hx,_,_,oz⟩:=hx
 simp only[au.val]at*
 obtain⟨a,rfl⟩:∃a,ab=some a:=aP (j:=0) hx vK
 refine fH Tryz.func53 [.c (.slice (some a) xs.length ac)] ?_
 repeat' ((conv=>whnf)<;>first|refine aH a 0 rfl rfl hl ?_|refine bA (λR w' h=>aA h hx) _ _ (eH hl) rfl ?_|refine aX ?_|refine ag ?_ ?_<;>intro _)
 refine Wp.loop (σ:=Nat×Int) 0 (λ⟨k,m⟩=>[(0,.c (.slice (some a) xs.length ac)),(3,ax m),(4,ax k)]) (λ_=>[]) (λ_=>aO w)
  (λs=>1<=s.1/\s.1<=xs.length/\s.2=foldI max (xs.take s.1)) (λs=>xs.length-s.1) (1,xs[0]) [] (Nat.le_refl _) (λs=>⟨rfl,rfl⟩) ⟨by simp,hl,by cases xs with|nil=>simp at hl|cons y r=>simp[foldI]⟩ ⟨rfl,⟨rfl,rfl,rfl,trivial⟩,trivial,λ_ _ h=>h⟩ ?_
 rintro⟨k,m⟩ ⟨h1,hk,he⟩
 simp only at h1 hk he
 by_cases hlt:k<xs.length
 ·have hs:=Me (f:=max) hlt h1
  rw[<-he]at hs
  repeat' ((conv=>whnf)<;>first|refine aH a k rfl rfl hlt ?_|refine bA (λR w' h=>aA h hx) _ _ (eH hlt) rfl ?_|refine aX ?_|refine ag ?_ ?_<;>intro _)
  all_goals exact⟨(k+1,_),[],⟨by simp,hlt,by simp only;omega⟩,by simp only;omega,rfl,⟨rfl,rfl,rfl,trivial⟩,trivial,λ_ _ h=>h⟩
 ·rw[List.take_of_length_le aa]at he
  repeat' ((conv=>whnf)<;>first|refine aX ?_|refine ag ?_ ?_<;>intro _)
  exact cz (λ_ _ h=>h) (λ_=>by rw[<-he];rfl) rfl
theorem PS(w:World)(x:au)(hx:x.ok w)(hl:1<=x.xs.length):
 Calls Tryz.prog 52 #[x.val] w λe w'=>e= .returned (.int .i64 (foldI min x.xs))/\Ext w w':=by
 obtain⟨ab,ac,xs⟩:=x
 obtain⟨hx,_,_,oz⟩:=hx
 simp only[au.val]at*
 obtain⟨a,rfl⟩:∃a,ab=some a:=aP (j:=0) hx vK
 refine fH Tryz.func52 [.c (.slice (some a) xs.length ac)] ?_
 repeat' ((conv=>whnf)<;>first|refine aH a 0 rfl rfl hl ?_|refine bA (λR w' h=>aA h hx) _ _ (eH hl) rfl ?_|refine aX ?_|refine ag ?_ ?_<;>intro _)
 refine Wp.loop (σ:=Nat×Int) 0 (λ⟨k,m⟩=>[(0,.c (.slice (some a) xs.length ac)),(3,ax m),(4,ax k)]) (λ_=>[]) (λ_=>aO w)
  (λs=>1<=s.1/\s.1<=xs.length/\s.2=foldI min (xs.take s.1)) (λs=>xs.length-s.1) (1,xs[0]) [] (Nat.le_refl _) (λs=>⟨rfl,rfl⟩) ⟨by simp,hl,by cases xs with|nil=>simp at hl|cons y r=>simp[foldI]⟩ ⟨rfl,⟨rfl,rfl,rfl,trivial⟩,trivial,λ_ _ h=>h⟩ ?_
 rintro⟨k,m⟩ ⟨h1,hk,he⟩
 simp only at h1 hk he
 by_cases hlt:k<xs.length
 ·have hs:=Me (f:=min) hlt h1
  rw[<-he]at hs
  repeat' ((conv=>whnf)<;>first|refine aH a k rfl rfl hlt ?_|refine bA (λR w' h=>aA h hx) _ _ (eH hlt) rfl ?_|refine aX ?_|refine ag ?_ ?_<;>intro _)
  all_goals exact⟨(k+1,_),[],⟨by simp,hlt,by simp only;omega⟩,by simp only;omega,rfl,⟨rfl,rfl,rfl,trivial⟩,trivial,λ_ _ h=>h⟩
 ·rw[List.take_of_length_le aa]at he
  repeat' ((conv=>whnf)<;>first|refine aX ?_|refine ag ?_ ?_<;>intro _)
  exact cz (λ_ _ h=>h) (λ_=>by rw[<-he];rfl) rfl
theorem Bt(w:World)(x:au)(hx:x.ok w)(hs:0<x.xs.length):
 Calls Tryz.prog 32 #[x.val] w λe w'=>∃v,e= .returned v/\Ext w w'/\kv w w' v 1 3 (aN x.xs):=by
 obtain⟨ab,ac,xs⟩:=x
 obtain⟨a,rfl⟩:∃a,ab=some a:=aP (j:=0) hx.rows (by rw[aJ];exact hs)
 obtain⟨hx,_,_,oz⟩:=hx
 simp only[au.val]at*
 refine fH Tryz.func32 [.c (.slice (some a) xs.length ac)] ?_
 repeat' ((conv=>whnf)<;>first|refine jR (ti 32 rfl) rfl ?_|refine aX ?_)
 have hil:=aJ xs
 repeat' ((conv=>whnf)<;>first|refine mQ (aJ xs) (λR w' h=>aA h hx) kL ?_|refine aX ?_)
 exact xS (λ_ _ h=>h) rfl (.head _) abA
structure ai where
 ak:Int
 a:Int
 b:Int
 ay:au
 lo:Int
 hi:Int
 size:Int
 data:au
 aM:au
def i64(x:Int):Prop:= -9223372036854775808<=x/\x<=9223372036854775807
structure ai.ok(w:World)(n:ai):Prop where
 ay:n.ay.ok w
 data:n.data.ok w
 aM:n.aM.ok w
 jK:i64 n.ak
 qO:i64 n.a
 oh:i64 n.b
 kH:i64 n.lo
 kJ:i64 n.hi
 jM:i64 n.size
def ai.cells(n:ai):List Value:=[.int .i64 n.ak,.int .i64 n.a,.int .i64 n.b,n.ay.val,.int .i64 n.lo,.int .i64 n.hi,.int .i64 n.size,n.data.val,n.aM.val]
abbrev jN(n:ai):List SV:=[ax n.ak,ax n.a,ax n.b,.c n.ay.val,ax n.lo,ax n.hi,ax n.size,.c n.data.val,.c n.aM.val]
def mV(n:ai)(at_:Int)(sv:Value):Value:= .agg #[.int .i64 n.ak,.int .i64 n.a,.int .i64 n.b,n.ay.val,.int .i64 n.lo,.int .i64 n.hi,.int .i64 n.size,n.data.val,n.aM.val,.int .i64 at_,sv]
@[irreducible] def kg (n:ai) (a b sh sp si da bi:Bool):Bool:=
  (a||decide (n.a=0))&&(b||decide (n.b=0))&&(sh||decide (n.ay.xs.length=0))&&(sp||(decide (n.lo=0)&&decide (n.hi=0)))&&(si||decide (n.size=0))&&(da||decide (n.data.xs.length=0))&&(bi||decide (n.aM.xs.length=0))
def ajE:List (Bool×Bool×Bool×Bool×Bool×Bool×Bool):=[(false,false,true,true,false,false,false),(false,false,true,false,false,true,false),(true,false,false,false,false,true,true),(true,false,true,false,false,true,true),(true,false,false,false,true,false,false),(true,true,false,false,false,false,false),(true,false,false,false,false,true,false),(true,false,true,false,false,false,false)]
theorem Py(w:World)(n:ai)(at_:Int)(sv:Value)(a b sh sp si da bi:Bool)(h:(ajE.contains (a,b,sh,sp,si,da,bi))=true):
 Calls Tryz.prog 114 #[mV n at_ sv,.bool a,.bool b,.bool sh,.bool sp,.bool si,.bool da,.bool bi] w λe w'=>e= .returned (.bool (kg n a b sh sp si da bi))/\Ext w w':=by
 have h':(a,b,sh,sp,si,da,bi)∈ajE:=List.contains_iff_mem.1 h
 clear h
 simp only[ajE,List.mem_cons,Prod.mk.injEq,List.not_mem_nil,or_false]at h'
 rcases h' with h|h|h|h|h|h|h|h
 ·obtain⟨rfl,rfl,rfl,rfl,rfl,rfl,rfl⟩:=h
  refine fH Tryz.func114 [.agg [ax n.ak,ax n.a,ax n.b,.c n.ay.val,ax n.lo,ax n.hi,ax n.size,.c n.data.val,.c n.aM.val,ax at_,.c sv],.c (.bool false),.c (.bool false),.c (.bool true),.c (.bool true),.c (.bool false),.c (.bool false),.c (.bool false)] ?_
  repeat' ((conv=>whnf)<;>first|refine aX ?_|refine ag ?_ ?_<;>intro _)
  all_goals exact bf (λ_ _ h=>h) rfl Lt
 ·obtain⟨rfl,rfl,rfl,rfl,rfl,rfl,rfl⟩:=h
  refine fH Tryz.func114 [.agg [ax n.ak,ax n.a,ax n.b,.c n.ay.val,ax n.lo,ax n.hi,ax n.size,.c n.data.val,.c n.aM.val,ax at_,.c sv],.c (.bool false),.c (.bool false),.c (.bool true),.c (.bool false),.c (.bool false),.c (.bool true),.c (.bool false)] ?_
  repeat' ((conv=>whnf)<;>first|refine aX ?_|refine ag ?_ ?_<;>intro _)
  all_goals exact bf (λ_ _ h=>h) rfl Lt
 ·obtain⟨rfl,rfl,rfl,rfl,rfl,rfl,rfl⟩:=h
  refine fH Tryz.func114 [.agg [ax n.ak,ax n.a,ax n.b,.c n.ay.val,ax n.lo,ax n.hi,ax n.size,.c n.data.val,.c n.aM.val,ax at_,.c sv],.c (.bool true),.c (.bool false),.c (.bool false),.c (.bool false),.c (.bool false),.c (.bool true),.c (.bool true)] ?_
  repeat' ((conv=>whnf)<;>first|refine aX ?_|refine ag ?_ ?_<;>intro _)
  all_goals exact bf (λ_ _ h=>h) rfl Lt
 ·obtain⟨rfl,rfl,rfl,rfl,rfl,rfl,rfl⟩:=h
  refine fH Tryz.func114 [.agg [ax n.ak,ax n.a,ax n.b,.c n.ay.val,ax n.lo,ax n.hi,ax n.size,.c n.data.val,.c n.aM.val,ax at_,.c sv],.c (.bool true),.c (.bool false),.c (.bool true),.c (.bool false),.c (.bool false),.c (.bool true),.c (.bool true)] ?_
  repeat' ((conv=>whnf)<;>first|refine aX ?_|refine ag ?_ ?_<;>intro _)
  all_goals exact bf (λ_ _ h=>h) rfl Lt
 ·obtain⟨rfl,rfl,rfl,rfl,rfl,rfl,rfl⟩:=h
  refine fH Tryz.func114 [.agg [ax n.ak,ax n.a,ax n.b,.c n.ay.val,ax n.lo,ax n.hi,ax n.size,.c n.data.val,.c n.aM.val,ax at_,.c sv],.c (.bool true),.c (.bool false),.c (.bool false),.c (.bool false),.c (.bool true),.c (.bool false),.c (.bool false)] ?_
  repeat' ((conv=>whnf)<;>first|refine aX ?_|refine ag ?_ ?_<;>intro _)
  all_goals exact bf (λ_ _ h=>h) rfl Lt
 ·obtain⟨rfl,rfl,rfl,rfl,rfl,rfl,rfl⟩:=h
  refine fH Tryz.func114 [.agg [ax n.ak,ax n.a,ax n.b,.c n.ay.val,ax n.lo,ax n.hi,ax n.size,.c n.data.val,.c n.aM.val,ax at_,.c sv],.c (.bool true),.c (.bool true),.c (.bool false),.c (.bool false),.c (.bool false),.c (.bool false),.c (.bool false)] ?_
  repeat' ((conv=>whnf)<;>first|refine aX ?_|refine ag ?_ ?_<;>intro _)
  all_goals exact bf (λ_ _ h=>h) rfl Lt
 ·obtain⟨rfl,rfl,rfl,rfl,rfl,rfl,rfl⟩:=h
  refine fH Tryz.func114 [.agg [ax n.ak,ax n.a,ax n.b,.c n.ay.val,ax n.lo,ax n.hi,ax n.size,.c n.data.val,.c n.aM.val,ax at_,.c sv],.c (.bool true),.c (.bool false),.c (.bool false),.c (.bool false),.c (.bool false),.c (.bool true),.c (.bool false)] ?_
  repeat' ((conv=>whnf)<;>first|refine aX ?_|refine ag ?_ ?_<;>intro _)
  all_goals exact bf (λ_ _ h=>h) rfl Lt
 ·obtain⟨rfl,rfl,rfl,rfl,rfl,rfl,rfl⟩:=h
  refine fH Tryz.func114 [.agg [ax n.ak,ax n.a,ax n.b,.c n.ay.val,ax n.lo,ax n.hi,ax n.size,.c n.data.val,.c n.aM.val,ax at_,.c sv],.c (.bool true),.c (.bool false),.c (.bool true),.c (.bool false),.c (.bool false),.c (.bool false),.c (.bool false)] ?_
  repeat' ((conv=>whnf)<;>first|refine aX ?_|refine ag ?_ ?_<;>intro _)
  all_goals exact bf (λ_ _ h=>h) rfl Lt
def jX(k at_:Int):Bool:=decide (0<=k/\k<at_)
theorem OL(w:World)(n:ai)(at_:Int)(sv:Value)(k:Int):
 Calls Tryz.prog 115 #[mV n at_ sv,.int .i64 k] w λe w'=>e= .returned (.bool (jX k at_))/\Ext w w':=by
 refine fH Tryz.func115 [.agg [ax n.ak,ax n.a,ax n.b,.c n.ay.val,ax n.lo,ax n.hi,ax n.size,.c n.data.val,.c n.aM.val,ax at_,.c sv],ax k] ?_
 repeat' ((conv=>whnf)<;>first|refine aX ?_|refine ag ?_ ?_<;>intro _)
 all_goals refine bf (λ_ _ h=>h) rfl ?_
 ·exact decide_eq_true aa
 ·exact decide_eq_false aa
 ·exact decide_eq_false aa
def nU:Int->List Int->Int
 |n,[]=>n
 |n,d::r=>if d<1\/d>64 then 0 else nU (n*d) r
@[irreducible] def iV (xs:List Int):Int:=if xs.length=4 then nU 1 xs else 0
theorem Xa(w:World)(n:ai)(hn:n.ay.ok w)(at_:Int)(sv:Value):
 Calls Tryz.prog 116 #[mV n at_ sv] w λe w'=>e= .returned (.int .i64 (iV n.ay.xs))/\Ext w w':=by
 by_cases h4:n.ay.xs.length=4
 ·have hs:iV n.ay.xs=nU 1 n.ay.xs:=by unfold iV;rw[if_pos h4]
  rw[hs]
  obtain⟨a,ha⟩:=hn.base aa
  refine fH Tryz.func116 [.agg [ax n.ak,ax n.a,ax n.b,.c n.ay.val,ax n.lo,ax n.hi,ax n.size,.c n.data.val,.c n.aM.val,ax at_,.c sv]] ?_
  repeat' ((conv=>whnf)<;>first|refine aX ?_|refine ag ?_ ?_<;>intro _)
  refine Wp.loop (σ:=Nat×Int) 1 (λ⟨k,m⟩=>[(13,.c n.ay.val),(14,ax n.ay.xs.length),(15,ax k),(3,ax m)]) (λ_=>[]) (λ_=>aO w)
   (λs=>s.1<=4/\1<=s.2/\s.2<=64^s.1/\nU 1 n.ay.xs=nU s.2 (n.ay.xs.drop s.1)) (λs=>4-s.1) (0,1) [] aa (λs=>⟨rfl,rfl⟩) ⟨by simp,by simp,by simp,rfl⟩ ⟨rfl,⟨rfl,rfl,rfl,rfl,trivial⟩,trivial,λ_ _ h=>h⟩ ?_
  rintro⟨k,m⟩ ⟨hk,h1,h64,he⟩
  simp only at hk h1 h64 he
  by_cases hlt:k<n.ay.xs.length
  ·rw[drop_at hlt]at he
   simp only[nU]at he
   have hb:1<=n.ay.xs[k]->n.ay.xs[k]<=64->1<=m*n.ay.xs[k]/\m*n.ay.xs[k]<=64^(k+1)/\m*n.ay.xs[k]<=16777216:=λg1 g2=>by
    have g3:m*n.ay.xs[k]<=64^k*64:=Int.mul_le_mul h64 g2 aa aa
    have g4:m*1<=m*n.ay.xs[k]:=Int.mul_le_mul_of_nonneg_left g1 aa
    have g5:(64:Int)^k*64=64^(k+1):=(Int.pow_succ 64 k).symm
    have g6:(64:Int)^(k+1)<=16777216:=by
     have:k=0\/k=1\/k=2\/k=3:=by omega
     rcases this with rfl|rfl|rfl|rfl<;>decide
    omega
   repeat' ((conv=>whnf)<;>first|refine aH a k ha rfl hlt ?_|refine bA (λR w' h=>by rw[<-ha];exact aA h hn.rows) _ _ (eH hlt) rfl ?_|refine wrap_i64 RH RH ?_|refine aX ?_|refine ag ?_ ?_<;>intro _)
   ·rw[if_pos (.inl aa)]at he
    rw[he]
    exact cz (λ_ _ h=>h) (λ_=>rfl) rfl
   ·rw[if_pos (.inr aa)]at he
    rw[he]
    exact cz (λ_ _ h=>h) (λ_=>rfl) rfl
   ·rw[if_neg aa]at he
    have:=hb aa aa
    exact⟨(k+1,m*n.ay.xs[k]),[],⟨by simp only;omega,this.1,this.2.1,he⟩,by simp only;omega,rfl,bM,trivial,λ_ _ h=>h⟩
  ·have hkl:n.ay.xs.drop k=[]:=List.drop_of_length_le aa
   rw[hkl]at he
   rw[he]
   repeat' ((conv=>whnf)<;>first|refine aX ?_|refine ag ?_ ?_<;>intro _)
   exact cz (λ_ _ h=>h) (λ_=>rfl) rfl
 ·have hs:iV n.ay.xs=0:=by unfold iV;rw[if_neg h4]
  rw[hs]
  refine fH Tryz.func116 [.agg [ax n.ak,ax n.a,ax n.b,.c n.ay.val,ax n.lo,ax n.hi,ax n.size,.c n.data.val,.c n.aM.val,ax at_,.c sv]] ?_
  repeat' ((conv=>whnf)<;>first|refine aX ?_|refine ag ?_ ?_<;>intro _)
  exact cz (λ_ _ h=>h) (λ_=>rfl) rfl
structure a_ where
 base:Option Addr
 cap:Nat
 l:List au
def aS(l:List au):List (List Value):=l.map λs=>[s.val]
def a_.val(v:a_):Value:= .slice v.base v.l.length v.cap
structure a_.ok(w:World)(v:a_):Prop where
 rows:bu w v.base 1 (aS v.l)
 each:∀s∈v.l,s.ok w
 few:v.l.length<=24
theorem dF{l:List au}{k:Nat}(h:k<l.length):(aS l)[k]? =some [l[k].val]:=by simp[aS,h]
theorem aW(l:List au):(aS l).length=l.length:=by simp[aS]
theorem OH(w:World)(n:ai)(at_:Int)(sv:a_)(hs:sv.ok w)(i:Nat)(s:au)(hi:sv.l[i]? =some s)(ha:n.a=i):
 Calls Tryz.prog 148 #[mV n at_ sv.val] w λe w'=>e= .returned s.val/\Ext w w':=by
 obtain⟨hil,rfl⟩:=List.getElem?_eq_some_iff.1 hi
 obtain⟨a,hb⟩:∃a,sv.base=some a:=aP (j:=i) hs.rows afC
 refine fH Tryz.func148 [.agg [ax n.ak,ax n.a,ax n.b,.c n.ay.val,ax n.lo,ax n.hi,ax n.size,.c n.data.val,.c n.aM.val,ax at_,.c sv.val]] ?_
 repeat' ((conv=>whnf)<;>first|(show bV ..;refine aH a i hb ha hil ?_)|(show fT ..;(refine bA (λR w' h=>by rw[<-hb];exact aA h hs.rows) _ _ (dF hil) rfl ?_))|refine aX ?_)
 exact cz (λ_ _ h=>h) (λ_=>rfl) rfl
theorem au.ok.later{w w':World}{R:Nat->Prop}{v:au}(h:v.ok w)(hb:(aO w).holds R w'):v.ok w':=⟨aA hb h.rows,h.fits,h.room,h.few⟩
theorem ai.ok.later{w w':World}{R:Nat->Prop}{n:ai}(h:n.ok w)(hb:(aO w).holds R w'):n.ok w':=
 ⟨h.ay.later hb,h.data.later hb,h.aM.later hb,h.jK,h.qO,h.oh,h.kH,h.kJ,h.jM⟩
theorem a_.ok.later{w w':World}{R:Nat->Prop}{v:a_}(h:v.ok w)(hb:(aO w).holds R w'):v.ok w':=⟨aA hb h.rows,λs hs=>(h.each s hs).later hb,h.few⟩
theorem lN{w:World}{v:au}(h:v.ok w):∃a,0<v.xs.length->v.base=some a:=by
 by_cases hl:0<v.xs.length
 ·obtain⟨a,ha⟩:=h.base hl;exact⟨a,λ_=>ha⟩
 ·exact⟨⟨0,0,none⟩,λh=>absurd h hl⟩
theorem abT{xs:List Int}{k:Nat}(h:k<xs.length):(aN xs)[k]? =some [.int .i64 (xs.getD k 0)]:=by rw[eH h];simp[List.getD,h]
theorem K4{xs:List Int}(h:iV xs>0):xs.length=4:=by
 unfold iV at h
 by_cases h4:xs.length=4
 ·exact h4
 ·rw[if_neg h4]at h;omega
def cZ(n:ai)(at_:Int):Bool:=
 if n.ak=1 then kg n false false true true false false false&&decide (az n.ay.xs>0)
 else if n.ak=2 then kg n false false true false false true false&&decide (az n.ay.xs>0)&&decide ((n.data.xs.length:Int)=az n.ay.xs)
 else if n.ak=3 then kg n true false false false false true true&&jX n.a at_&&decide (n.aM.xs.length>0)&&decide (n.aM.xs.length<=64)
 else if n.ak=4 then kg n true false true false false true true&&jX n.a at_&&decide (iV n.ay.xs>0)&&decide ((n.data.xs.length:Int)=iV n.ay.xs)&&decide ((n.aM.xs.length:Int)=n.ay.xs.getD 0 0)
 else if n.ak=5 then kg n true false false false true false false&&jX n.a at_&&decide (n.size>0)
 else if n.ak=6 then kg n true true false false false false false&&jX n.a at_&&jX n.b at_
 else if n.ak=7 then kg n true false false false false true false&&jX n.a at_&&decide (n.data.xs.length=1)
 else if n.ak=8 then kg n true false false false false true false&&jX n.a at_&&decide (n.data.xs.length=3)
 else if n.ak=9 then kg n true false true false false false false&&jX n.a at_&&decide (az n.ay.xs>0)
 else false
theorem adi(w:World)(n:ai)(hn:n.ok w)(at_:Int)(sv:Value):
 Calls Tryz.prog 58 #[mV n at_ sv] w λe w'=>e= .returned (.bool (cZ n at_))/\Ext w w':=by
 obtain⟨a,hbase⟩:=lN hn.ay
 have hkl:= @K4 n.ay.xs
 refine fH Tryz.func58 [.agg [ax n.ak,ax n.a,ax n.b,.c n.ay.val,ax n.lo,ax n.hi,ax n.size,.c n.data.val,.c n.aM.val,ax at_,.c sv]] ?_
 repeat' ((conv=>whnf)<;>first|(show aI _ 61 ..;refine aQ (f:=61) Tryz.call61 _ (λρ w' hw=>nJ w' n.ay.base n.ay.cap n.ay.xs (ae hw λR h=>aA h hn.ay.rows)) ?_)|(show aI _ 114 ..;((refine fK (f:=114) Tryz.call114 _ (λρ w' hw=>Py w' n at_ sv _ _ _ _ _ _ _ rfl) ?_ ?_<;>intro hl)))|(show aI _ 115 ..;((refine fK (f:=115) Tryz.call115 _ (λρ w' hw=>OL w' n at_ sv _) ?_ ?_<;>intro ha)))|(show aI _ 116 ..;refine aQ (f:=116) Tryz.call116 _ (λρ w' hw=>Xa w' n (ae hw λR h=>hn.ay.later h) at_ sv) ?_)|(show kE _ 114 ..;((refine rJ (f:=114) Tryz.call114 _ (λρ w' hw=>Py w' n at_ sv _ _ _ _ _ _ _ rfl) ?_ ?_<;>intro hl)))|(show kE _ 115 ..;((refine rJ (f:=115) Tryz.call115 _ (λρ w' hw=>OL w' n at_ sv _) ?_ ?_<;>intro ha)))|(show bV ..;refine aH a 0 (hbase aa) rfl aa ?_)|(show fT ..;(refine bA (λR w' h=>by rw[<-hbase aa];exact aA h hn.ay.rows) _ _ (abT aa) rfl ?_))|refine bn ?_|refine ag ?_ ?_<;>intro _)
 all_goals refine bf (λ_ _ h=>h) rfl ?_
 all_goals(unfold cZ;repeat(first|rw[if_pos aa]|rw[if_neg aa]))
 all_goals simp only[*,Bool.true_and,Bool.false_and,Bool.and_false,Bool.and_true,Bool.and_eq_true,Bool.and_eq_false_iff,decide_eq_true_eq,decide_eq_false_iff_not]
 all_goals first|omega|simp|(simp;omega)
open Go.RowKit
theorem L_:∀(xs:List Int) (n:Int),1<=n->n<=64->0<=fF n xs/\fF n xs<=64
 |[],n,h1,h2=>⟨by simp only[fF];omega,by simpa only[fF]using h2⟩
 |d::r,n,h1,h2=>by
  simp only[fF]
  by_cases h:d<1\/d>64/n
  ·rw[if_pos h];omega
  ·rw[if_neg h]
   have h3:¬n*d>64:=λg=>h (.inr ((wF h1 aa).2 g))
   have h4:n*1<=n*d:=Int.mul_le_mul_of_nonneg_left aa aa
   exact L_ r (n*d) aa aa
theorem dQ(xs:List Int):0<=az xs/\az xs<=64:=by
 unfold az
 split
 ·omega
 ·exact L_ xs 1 aa aa
theorem Ex:∀(xs:List Int) (n:Int),1<=n->n<=64->0<fF n xs->∀x∈xs,1<=x/\x<=64
 |[],n,_,_,_,x,hx=>by simp at hx
 |d::r,n,h1,h2,h,x,hx=>by
  simp only[fF]at h
  by_cases hc:d<1\/d>64/n
  ·rw[if_pos hc]at h;omega
  ·rw[if_neg hc]at h
   have h3:¬n*d>64:=λg=>hc (.inr ((wF h1 aa).2 g))
   have h4:n*1<=n*d:=Int.mul_le_mul_of_nonneg_left aa aa
   have h5:1*d<=n*d:=Int.mul_le_mul_of_nonneg_right h1 aa
   rcases List.mem_cons.1 hx with rfl|hx
   ·omega
   ·exact Ex r (n*d) aa aa h x hx
theorem gM{xs:List Int}(h:0<az xs):1<=xs.length/\xs.length<=3/\∀x∈xs,1<=x/\x<=64:=by
 unfold az at h
 by_cases hl:xs.length<1\/3<xs.length
 ·rw[if_pos hl]at h;omega
 ·rw[if_neg hl]at h
  exact⟨by omega,by omega,Ex xs 1 aa aa h⟩
theorem Dy:∀(xs:List Int) (n:Int),0<nU n xs->∀x∈xs,1<=x/\x<=64
 |[],_,_,x,hx=>by simp at hx
 |d::r,n,h,x,hx=>by
  simp only[nU]at h
  by_cases hc:d<1\/d>64
  ·rw[if_pos hc]at h;omega
  ·rw[if_neg hc]at h
   rcases List.mem_cons.1 hx with rfl|hx
   ·omega
   ·exact Dy r (n*d) h x hx
theorem pG{xs:List Int}(h:0<iV xs):xs.length=4/\∀x∈xs,1<=x/\x<=64:=by
 have h4:=K4 h
 unfold iV at h
 rw[if_pos h4]at h
 exact⟨h4,Dy xs 1 h⟩
theorem dz{xs:List Int}{k:Nat}(h:k<xs.length):xs.getD k 0∈xs:=by
 simp[List.getD,h]
theorem adG{a b c:Int}(ha:1<=a)(hb:1<=b)(hc:1<=c)(h:a*b*c<=64):0<az [a,b,c]:=by
 have e:az [a,b,c]=fF 1 [a,b,c]:=by unfold az;rw[if_neg fP]
 have h1:1<=a*b:=by have:=Int.mul_le_mul ha hb aa aa;omega
 have h2:a*b*1<=a*b*c:=Int.mul_le_mul_of_nonneg_left hc aa
 have h3:a*1<=a*b:=Int.mul_le_mul_of_nonneg_left hb aa
 have t1:¬(a<1\/a>64/1):=by
  rintro(g|g)
  ·omega
  ·have:=(wF (n:=1) aa ha).1 g;omega
 have t2:¬(b<1\/b>64/(1*a)):=by
  rintro(g|g)
  ·omega
  ·have:=(wF (n:=1*a) aa hb).1 g;rw[Int.one_mul]at this;omega
 have t3:¬(c<1\/c>64/(1*a*b)):=by
  rintro(g|g)
  ·omega
  ·have:=(wF (n:=1*a*b) (by rw[Int.one_mul];omega) hc).1 g;rw[Int.one_mul]at this;omega
 rw[e]
 simp only[fF]
 rw[if_neg t1,if_neg t2,if_neg t3,Int.one_mul]
 omega
theorem ME{a b c:Int}(h:0<az [a,b,c]):1<=a/\1<=b/\1<=c/\a*b*c<=64:=by
 have hd:=(gM h).2.2
 have ha:=hd a fP
 have hb:=hd b fP
 have hc:=hd c fP
 have e:az [a,b,c]=fF 1 [a,b,c]:=by unfold az;rw[if_neg fP]
 rw[e]at h
 simp only[fF]at h
 by_cases t1:a<1\/a>64/1
 ·rw[if_pos t1]at h;omega
 rw[if_neg t1]at h
 by_cases t2:b<1\/b>64/(1*a)
 ·rw[if_pos t2]at h;omega
 rw[if_neg t2]at h
 by_cases t3:c<1\/c>64/(1*a*b)
 ·rw[if_pos t3]at h;omega
 have hab:1<=a*b:=by have:=Int.mul_le_mul ha.1 hb.1 aa aa;omega
 have:¬(1*a*b*c>64):=λg=>t3 (.inr ((wF (by rw[Int.one_mul];exact hab) hc.1).2 g))
 rw[Int.one_mul]at this
 exact⟨ha.1,hb.1,hc.1,by omega⟩
theorem afb{a:Int}(h1:1<=a)(h2:a<=64):0<az [a]:=by
 have e:az [a]=fF 1 [a]:=by unfold az;rw[if_neg fP]
 rw[e]
 simp only[fF]
 have t1:¬(a<1\/a>64/1):=by
  rintro(g|g)
  ·omega
  ·have:=(wF (n:=1) aa h1).1 g;omega
 rw[if_neg t1];omega
def bR(n:ai)(sh:List (List Int)):Option (List Int):=
 if n.ak=1\/n.ak=2 then some n.ay.xs
 else if n.ak=3 then(if(n.data.xs.length:Int)=n.aM.xs.length*az (sh.getD n.a.toNat [])then some [(n.aM.xs.length:Int)]else none)
 else if n.ak=4 then
  (if(sh.getD n.a.toNat []).length≠3\/(sh.getD n.a.toNat []).getD 0 0≠n.ay.xs.getD 1 0\/(sh.getD n.a.toNat []).getD 1 0<n.ay.xs.getD 2 0\/(sh.getD n.a.toNat []).getD 2 0<n.ay.xs.getD 3 0 then none
   else if 0<az [n.ay.xs.getD 0 0,(sh.getD n.a.toNat []).getD 1 0-n.ay.xs.getD 2 0+1,(sh.getD n.a.toNat []).getD 2 0-n.ay.xs.getD 3 0+1]then some [n.ay.xs.getD 0 0,(sh.getD n.a.toNat []).getD 1 0-n.ay.xs.getD 2 0+1,(sh.getD n.a.toNat []).getD 2 0-n.ay.xs.getD 3 0+1]else none)
 else if n.ak=5 then
  (if(sh.getD n.a.toNat []).length≠3\/(sh.getD n.a.toNat []).getD 1 0%n.size≠0\/(sh.getD n.a.toNat []).getD 2 0%n.size≠0 then none
   else some [(sh.getD n.a.toNat []).getD 0 0,(sh.getD n.a.toNat []).getD 1 0/n.size,(sh.getD n.a.toNat []).getD 2 0/n.size])
 else if n.ak=6 then(if sh.getD n.a.toNat []=sh.getD n.b.toNat []then some (sh.getD n.a.toNat [])else none)
 else if n.ak=9 then(if az n.ay.xs=az (sh.getD n.a.toNat [])then some n.ay.xs else none)
 else some (sh.getD n.a.toNat [])
structure Aa(n:ai)(at_:Nat):Prop where
 a:n.ak≠1->n.ak≠2->0<=n.a/\n.a<at_
 b:n.ak=6->0<=n.b/\n.b<at_
 own:n.ak=1\/n.ak=2\/n.ak=9->0<az n.ay.xs
 aM:n.ak=3->1<=n.aM.xs.length/\n.aM.xs.length<=64
 X3:n.ak=4->0<iV n.ay.xs
 pool:n.ak=5->0<n.size
 ak:1<=n.ak/\n.ak<=9
theorem dM{n:ai}{at_:Nat}(h:cZ n at_=true):Aa n at_:=by
 unfold cZ at h
 have hk:n.ak=1\/n.ak=2\/n.ak=3\/n.ak=4\/n.ak=5\/n.ak=6\/n.ak=7\/n.ak=8\/n.ak=9\/¬(n.ak=1\/n.ak=2\/n.ak=3\/n.ak=4\/n.ak=5\/n.ak=6\/n.ak=7\/n.ak=8\/n.ak=9):=by omega
 rcases hk with hk|hk|hk|hk|hk|hk|hk|hk|hk|hk
 all_goals repeat(first|rw[if_pos aa]at h|rw[if_neg aa]at h)
 all_goals try simp only[Bool.and_eq_true,decide_eq_true_eq,jX]at h
 ·exact⟨by omega,by omega,by omega,by omega,by omega,by omega,by omega⟩
 ·exact⟨by omega,by omega,by omega,by omega,by omega,by omega,by omega⟩
 ·exact⟨by omega,by omega,by omega,by omega,by omega,by omega,by omega⟩
 ·exact⟨by omega,by omega,by omega,by omega,by omega,by omega,by omega⟩
 ·exact⟨by omega,by omega,by omega,by omega,by omega,by omega,by omega⟩
 ·exact⟨by omega,by omega,by omega,by omega,by omega,by omega,by omega⟩
 ·exact⟨by omega,by omega,by omega,by omega,by omega,by omega,by omega⟩
 ·exact⟨by omega,by omega,by omega,by omega,by omega,by omega,by omega⟩
 ·exact⟨by omega,by omega,by omega,by omega,by omega,by omega,by omega⟩
 ·cases h
theorem abF{sh:List (List Int)}(hg:∀s∈sh,0<az s){i:Int}(h0:0<=i)(h1:i<sh.length):0<az (sh.getD i.toNat []):=by
 have hi:i.toNat<sh.length:=by omega
 have:sh.getD i.toNat []=sh[i.toNat]:=by simp[List.getD,hi]
 rw[this]
 exact hg _ (List.getElem_mem hi)
theorem Xi{xs:List Int}(h:xs.length=3):xs=[xs.getD 0 0,xs.getD 1 0,xs.getD 2 0]:=by
 match xs,h with
 |[a,b,c],_=>rfl
theorem jF{n:ai}{sh r:List (List Int)}{s:List Int}(hf:Aa n sh.length)(hg:∀s∈sh,0<az s)(h:bR n sh=some s)(_hr:r=sh):0<az s:=by
 unfold bR at h
 by_cases h12:n.ak=1\/n.ak=2
 ·rw[if_pos h12]at h;cases h;exact hf.own aa
 rw[if_neg h12]at h
 have ha:=hf.a aa aa
 have hga:=abF hg ha.1 ha.2
 by_cases h3:n.ak=3
 ·rw[if_pos h3]at h
  split at h
  ·cases h;have:=hf.aM h3;exact afb aa aa
  ·cases h
 rw[if_neg h3]at h
 by_cases h4:n.ak=4
 ·rw[if_pos h4]at h
  split at h
  ·cases h
  ·split at h
   ·cases h;assumption
   ·cases h
 rw[if_neg h4]at h
 by_cases h5:n.ak=5
 ·rw[if_pos h5]at h
  split at h
  ·cases h
  ·rename_i hn
   cases h
   have hs:=hf.pool h5
   generalize sh.getD n.a.toNat []=a at*
   have hl:a.length=3:=by omega
   rw[Xi hl]at hga
   obtain⟨p0,p1,p2,p3⟩:=ME hga
   have d1:n.size∣a.getD 1 0:=Int.dvd_of_emod_eq_zero aa
   have d2:n.size∣a.getD 2 0:=Int.dvd_of_emod_eq_zero aa
   have q1:1<=a.getD 1 0/n.size:=by
    have:=Int.ediv_mul_cancel d1
    have h0:0<=a.getD 1 0/n.size:=Int.ediv_nonneg aa aa
    by_cases g:0<a.getD 1 0/n.size
    ·omega
    ·have e:a.getD 1 0/n.size=0:=by omega
     rw[e]at this;omega
   have q2:1<=a.getD 2 0/n.size:=by
    have:=Int.ediv_mul_cancel d2
    have h0:0<=a.getD 2 0/n.size:=Int.ediv_nonneg aa aa
    by_cases g:0<a.getD 2 0/n.size
    ·omega
    ·have e:a.getD 2 0/n.size=0:=by omega
     rw[e]at this;omega
   have l1:a.getD 1 0/n.size<=a.getD 1 0:=Int.ediv_le_self _ aa
   have l2:a.getD 2 0/n.size<=a.getD 2 0:=Int.ediv_le_self _ aa
   have m1:a.getD 0 0*(a.getD 1 0/n.size)<=a.getD 0 0*a.getD 1 0:=Int.mul_le_mul_of_nonneg_left l1 aa
   have m0:0<=a.getD 0 0*a.getD 1 0:=Int.mul_nonneg aa aa
   have m2:a.getD 0 0*(a.getD 1 0/n.size)*(a.getD 2 0/n.size)<=a.getD 0 0*a.getD 1 0*a.getD 2 0:=Int.mul_le_mul m1 l2 aa m0
   exact adG p0 q1 q2 aa
 rw[if_neg h5]at h
 by_cases h6:n.ak=6
 ·rw[if_pos h6]at h
  split at h
  ·cases h;exact hga
  ·cases h
 rw[if_neg h6]at h
 by_cases h9:n.ak=9
 ·rw[if_pos h9]at h
  split at h
  ·cases h;exact hf.own aa
  ·cases h
 rw[if_neg h9]at h
 cases h;exact hga
section
structure au.bq(v:au):Prop where
 fits:∀x∈v.xs,-9223372036854775808<=x/\x<=9223372036854775807
 room:v.xs.length<=v.cap
 few:v.xs.length<=1000000
theorem au.ok.bq{w:World}{v:au}(h:v.ok w):v.bq:=⟨h.fits,h.room,h.few⟩
def bE(v:au):bN:=fC v.base 1 (aN v.xs)
theorem bT{v:au}{R:Nat->Prop}{w:World}(hs:v.bq)(h:(bE v).holds R w):v.ok w:=⟨aV h,hs.fits,hs.room,hs.few⟩
abbrev Jg(N:Nat)(v:au):bN:=(bE v).past N
theorem uD{w w':World}{v:Value}{xs:List Int}(h:kv w w' v 1 3 (aN xs))(hf:∀x∈xs,-9223372036854775808<=x/\x<=9223372036854775807)(hl:xs.length<=1000000):
 ∃u:au,v=u.val/\u.xs=xs/\u.bq/\(bE u).holds (λb=>w.heap.size<=b/\b<w'.heap.size) w':=by
 obtain⟨base,cap,e,h1⟩:=fJ h
 obtain⟨l,e2,F,hF,hr,hcap,_⟩:=h
 rw[e2]at e
 simp only[Value.slice.injEq]at e
 obtain⟨e3,_,e4⟩:=e
 refine⟨⟨base,cap,xs⟩,?_,rfl,⟨hf,?_,hl⟩,h1⟩
 ·rw[e2,e3,e4];simp[au.val,aJ]
 ·rw[<-e4];simpa[aJ]using hcap
def jS(w:World)(n:ai)(l:List au)(r:Option (List Int))(e:Ending)(w':World):Prop:=
 ∃(v:Value) (ok:Bool),e= .returned (.tuple #[v,.bool ok])/\Ext w w'/\ok=r.isSome/\
  ∀xs,r=some xs->∃u:au,v=u.val/\u.xs=xs/\(u=n.ay\/u∈l\/(u.bq/\(bE u).holds (λb=>w.heap.size<=b/\b<w'.heap.size) w'))
section
variable {B:Base} {H:Heap} {S:bN} {nx:Nat} {w:World} {n:ai} {l:List au} {r:Option (List Int)}
theorem vz(u:au)(hb:∀R w',S.holds R w'->(aO B.w0).holds R w')(hw0:B.w0=w)(hu:u=n.ay\/u∈l)(hr:r=some u.xs):jI B (.sN [.c u.val,.c (.bool true)]) H S nx (jS w n l r):=by
 subst hw0 hr
 exact dH λρ w' hw=>⟨_,true,rfl,aZ hw hb,rfl,λxs h=>⟨u,rfl,by simpa using h,hu.elim .inl λh=> .inr (.inl h)⟩⟩
theorem uy{v:SV}(hb:∀R w',S.holds R w'->(aO B.w0).holds R w')(hw0:B.w0=w)(hr:r=none):jI B (.sN [v,.c (.bool false)]) H S nx (jS w n l r):=by
 subst hw0 hr
 exact dH λρ w' hw=>⟨_,false,rfl,aZ hw hb,rfl,λxs h=>by cases h⟩
theorem Ki{i m:Nat}{xs:List Int}(hb:∀R w',S.holds R w'->(aO B.w0).holds R w')(hw0:B.w0=w)(he:(i,bZ.rows (aN xs) 1 3)∈H)(hm:m=xs.length)(hf:∀x∈xs,-9223372036854775808<=x/\x<=9223372036854775807)(hl:xs.length<=1000000)(hr:r=some xs):
 jI B (.sN [.os i m,.c (.bool true)]) H S nx (jS w n l r):=by
 subst hw0 hr hm
 refine dH λρ w' hw=> ?_
 have hn:=dK hw hb he
 rw[aJ]at hn
 obtain⟨u,h1,h2,h3,h4⟩:=uD hn hf hl
 exact⟨_,true,rfl,aZ hw hb,rfl,λys h=>⟨u,h1,by rw[h2];simpa using h,.inr (.inr ⟨h3,h4⟩)⟩⟩
end
theorem tV(w:World)(s:au)(h:s.ok w):Calls Tryz.prog 61 #[s.val] w λe w'=>e= .returned (.int .i64 (az s.xs))/\Ext w w':=nJ w s.base s.cap s.xs h.rows
theorem ajY(w:World)(n:ai)(at_:Int)(sv:a_)(hs:sv.ok w)(i:Nat)(s:au)(hi:sv.l[i]? =some s)(ha:n.a=i):
 Calls Tryz.prog 117 #[mV n at_ sv.val] w (jS w n sv.l (some s.xs)):=by
 refine fH Tryz.func117 [.agg [ax n.ak,ax n.a,ax n.b,.c n.ay.val,ax n.lo,ax n.hi,ax n.size,.c n.data.val,.c n.aM.val,ax at_,.c sv.val]] ?_
 repeat' ((conv=>whnf)<;>first|refine acK ?_|refine aX ?_)
 exact vz s (λ_ _ h=>h) rfl (.inr (List.mem_of_getElem? hi)) rfl
theorem akP(w:World)(n:ai)(at_:Int)(sv:a_):
 Calls Tryz.prog 118 #[mV n at_ sv.val] w (jS w n sv.l (some n.ay.xs)):=by
 refine fH Tryz.func118 [.agg [ax n.ak,ax n.a,ax n.b,.c n.ay.val,ax n.lo,ax n.hi,ax n.size,.c n.data.val,.c n.aM.val,ax at_,.c sv.val]] ?_
 repeat' ((conv=>whnf)<;>first|refine aX ?_)
 exact vz n.ay (λ_ _ h=>h) rfl (.inl rfl) rfl
theorem ako(w:World)(n:ai)(hn:n.ok w)(at_:Int)(sv:a_)(hs:sv.ok w)(i:Nat)(s:au)(hi:sv.l[i]? =some s)(ha:n.a=i):
 Calls Tryz.prog 123 #[mV n at_ sv.val] w (jS w n sv.l (if az n.ay.xs=az s.xs then some n.ay.xs else none)):=by
 have hso:=hs.each s (List.mem_of_getElem? hi)
 refine fH Tryz.func123 [.agg [ax n.ak,ax n.a,ax n.b,.c n.ay.val,ax n.lo,ax n.hi,ax n.size,.c n.data.val,.c n.aM.val,ax at_,.c sv.val]] ?_
 repeat' ((conv=>whnf)<;>first|refine agY ?_|(show kE _ 61 [.c n.ay.val] ..;refine iU (f:=61) Tryz.call61 _ (λρ w' hw=>tV w' n.ay (ae hw λR h=>hn.ay.later h)) ?_)|(show kE _ 61 [.c s.val] ..;refine iU (f:=61) Tryz.call61 _ (λρ w' hw=>tV w' s (ae hw λR h=>hso.later h)) ?_)|refine bn ?_|refine ag ?_ ?_<;>intro _)
 ·rename_i h
  rw[if_pos h]
  exact vz n.ay (λ_ _ h=>h) rfl (.inl rfl) rfl
 ·rename_i h
  rw[if_neg h]
  exact uy (λ_ _ h=>h) rfl rfl
theorem amh(w:World)(n:ai)(at_:Int)(sv:a_)(hs:sv.ok w)(i j:Nat)(s t:au)(hi:sv.l[i]? =some s)(ha:n.a=i)(hj:sv.l[j]? =some t)(hb:n.b=j):
 Calls Tryz.prog 122 #[mV n at_ sv.val] w (jS w n sv.l (if s.xs=t.xs then some s.xs else none)):=by
 have hso:=hs.each s (List.mem_of_getElem? hi)
 have hto:=hs.each t (List.mem_of_getElem? hj)
 obtain⟨hjl,hjt⟩:=List.getElem?_eq_some_iff.1 hj
 have hr:(aS sv.l)[j]? =some [t.val]:=by rw[dF hjl,hjt]
 obtain⟨a,hb'⟩:∃a,sv.base=some a:=aP (j:=j) hs.rows (by rw[aW];exact hjl)
 refine fH Tryz.func122 [.agg [ax n.ak,ax n.a,ax n.b,.c n.ay.val,ax n.lo,ax n.hi,ax n.size,.c n.data.val,.c n.aM.val,ax at_,.c sv.val]] ?_
 repeat' ((conv=>whnf)<;>first|refine agY ?_|(show bV ..;refine aH a j hb' hb hjl ?_)|(show fT ..;(refine bA (λR w' h=>by rw[<-hb'];exact aA h hs.rows) _ _ hr rfl ?_))|(show kE _ 62 ..;((refine rJ (f:=62) Tryz.call62 _ (λρ w' hw=>q8 w' s t (ae hw λR h=>hso.later h) (ae hw λR h=>hto.later h)) ?_ ?_<;>intro he)))|refine bn ?_)
 ·rw[if_pos (of_decide_eq_true he)]
  exact vz s (λ_ _ h=>h) rfl (.inr (List.mem_of_getElem? hi)) rfl
 ·rw[if_neg (of_decide_eq_false he)]
  exact uy (λ_ _ h=>h) rfl rfl
end
abbrev amM:DT:=(eY [0,1,2,3,5,6,7,8,9,10,11,12,13] (.alt 4 (eY [114,115,16,17,18,19] .done) (.one 14 (.alt 4 (eY [115,16,17,18,19] .done) (eY [115,16,17,104,18,19] .done)))))
abbrev alg:DT:=(eY [0,1,2,3,4,5,6,7,8,9,10,11,12,13,14,15,16,117,18,19] .done)
abbrev alE:DT:=(eY [0,1,2,3,4,5,6,7,8,9,10,11,12,13,14,15,16,17,18,19,20,21,22,23,24,125,26] .done)
theorem agV(w:World)(n:ai)(hn:n.ok w)(at_:Int)(sv:a_)(hs:sv.ok w)(i:Nat)(s:au)(hi:sv.l[i]? =some s)(ha:n.a=i)(hbi:n.aM.xs.length<=64):
 Calls Tryz.prog 119 #[mV n at_ sv.val] w (jS w n sv.l (if(n.data.xs.length:Int)=n.aM.xs.length*az s.xs then some [(n.aM.xs.length:Int)]else none)):=by
 have hso:=hs.each s (List.mem_of_getElem? hi)
 have hm:0<=(n.aM.xs.length:Int)*az s.xs/\(n.aM.xs.length:Int)*az s.xs<=4096:=by
  have h1:=dQ s.xs
  have h2:(n.aM.xs.length:Int)*az s.xs<=64*64:=Int.mul_le_mul aa h1.2 h1.1 aa
  have h3:0<=(n.aM.xs.length:Int)*az s.xs:=Int.mul_nonneg aa h1.1
  omega
 refine fH Tryz.func119 [.agg [ax n.ak,ax n.a,ax n.b,.c n.ay.val,ax n.lo,ax n.hi,ax n.size,.c n.data.val,.c n.aM.val,ax at_,.c sv.val]] ?_
 repeat' ((conv=>whnf)<;>first|refine acK ?_|(show aI _ 61 ..;refine aQ (f:=61) Tryz.call61 _ (λρ w' hw=>tV w' s (ae hw λR h=>hso.later h)) ?_)|(show b_ _ 1 ..;refine lu [] _ amM ?_)|refine aX ?_|refine ag ?_ ?_<;>intro _|refine And.intro ?_ ?_)
 all_goals first
  |(rw[if_pos aa];exact Ki (λ_ _ h=>h) rfl List.mem_cons_self rfl ahE fP rfl)
  |(rw[if_neg aa];exact uy (λ_ _ h=>h) rfl rfl)
theorem au.ok.at_{w:World}{v:au}{a:Addr}(h:v.ok w)(ha:v.base=some a):∀(R:Nat->Prop) w',(aO w).holds R w'->bu w' (some a) 1 (aN v.xs):=λR w' hb=>by rw[<-ha];exact aA hb h.rows
theorem mem3{p:Int->Prop}{a b c:Int}(ha:p a)(hb:p b)(hc:p c):∀x∈[a,b,c],p x:=by
 intro x hx
 simp only[List.mem_cons,List.not_mem_nil,or_false]at hx
 rcases hx with rfl|rfl|rfl<;>assumption
theorem aks(w:World)(n:ai)(hn:n.ok w)(at_:Int)(sv:a_)(hs:sv.ok w)(i:Nat)(s:au)(hi:sv.l[i]? =some s)(ha:n.a=i)(hz:0<n.size)(hg:0<az s.xs):
 Calls Tryz.prog 121 #[mV n at_ sv.val] w (jS w n sv.l (if s.xs.length≠3\/s.xs.getD 1 0%n.size≠0\/s.xs.getD 2 0%n.size≠0 then none else some [s.xs.getD 0 0,s.xs.getD 1 0/n.size,s.xs.getD 2 0/n.size])):=by
 have hso:=hs.each s (List.mem_of_getElem? hi)
 obtain⟨hl1,hl3,hd⟩:=gM hg
 obtain⟨a,hb⟩:=hso.base aa
 have hd0:0<s.xs.length->1<=s.xs.getD 0 0/\s.xs.getD 0 0<=64:=λh=>hd _ (dz h)
 have hd1:1<s.xs.length->1<=s.xs.getD 1 0/\s.xs.getD 1 0<=64:=λh=>hd _ (dz h)
 have hd2:2<s.xs.length->1<=s.xs.getD 2 0/\s.xs.getD 2 0<=64:=λh=>hd _ (dz h)
 have hq1:1<s.xs.length->0<=s.xs.getD 1 0/n.size/\s.xs.getD 1 0/n.size<=64:=λh=>⟨Int.ediv_nonneg aa aa,Int.le_trans (Int.ediv_le_self _ aa) aa⟩
 have hq2:2<s.xs.length->0<=s.xs.getD 2 0/n.size/\s.xs.getD 2 0/n.size<=64:=λh=>⟨Int.ediv_nonneg aa aa,Int.le_trans (Int.ediv_le_self _ aa) aa⟩
 refine fH Tryz.func121 [.agg [ax n.ak,ax n.a,ax n.b,.c n.ay.val,ax n.lo,ax n.hi,ax n.size,.c n.data.val,.c n.aM.val,ax at_,.c sv.val]] ?_
 repeat' ((conv=>whnf)<;>first|refine acK ?_|(show bV ..;refine aH _ 0 hb rfl aa ?_)|(show fT ..;refine bY (hso.at_ hb) (j:=0) aa ?_)|(show bV ..;refine aH _ 1 hb rfl aa ?_)|(show fT ..;refine bY (hso.at_ hb) (j:=1) aa ?_)|(show bV ..;refine aH _ 2 hb rfl aa ?_)|(show fT ..;refine bY (hso.at_ hb) (j:=2) aa ?_)|refine F9 ?_|refine OW ?_|(show b_ _ 4 ..;refine lu [] _ alg ?_)|refine bn ?_|refine ag ?_ ?_<;>intro _)
 all_goals first
  |(rw[if_neg aa];exact Ki (λ_ _ h=>h) rfl List.mem_cons_self rfl (mem3 aa aa aa) fP rfl)
  |(rw[if_pos aa];exact uy (λ_ _ h=>h) rfl rfl)
theorem ajs(w:World)(n:ai)(hn:n.ok w)(at_:Int)(sv:a_)(hs:sv.ok w)(i:Nat)(s:au)(hi:sv.l[i]? =some s)(ha:n.a=i)(hk:0<iV n.ay.xs)(hg:0<az s.xs):
 Calls Tryz.prog 120 #[mV n at_ sv.val] w (jS w n sv.l (
  if s.xs.length≠3\/s.xs.getD 0 0≠n.ay.xs.getD 1 0\/s.xs.getD 1 0<n.ay.xs.getD 2 0\/s.xs.getD 2 0<n.ay.xs.getD 3 0 then none
  else if 0<az [n.ay.xs.getD 0 0,s.xs.getD 1 0-n.ay.xs.getD 2 0+1,s.xs.getD 2 0-n.ay.xs.getD 3 0+1]then some [n.ay.xs.getD 0 0,s.xs.getD 1 0-n.ay.xs.getD 2 0+1,s.xs.getD 2 0-n.ay.xs.getD 3 0+1]else none)):=by
 have hso:=hs.each s (List.mem_of_getElem? hi)
 obtain⟨hl1,hl3,hd⟩:=gM hg
 obtain⟨a,hb⟩:=hso.base aa
 obtain⟨hk4,hkd⟩:=pG hk
 obtain⟨c,hc⟩:=hn.ay.base aa
 have hd0:0<s.xs.length->1<=s.xs.getD 0 0/\s.xs.getD 0 0<=64:=λh=>hd _ (dz h)
 have hd1:1<s.xs.length->1<=s.xs.getD 1 0/\s.xs.getD 1 0<=64:=λh=>hd _ (dz h)
 have hd2:2<s.xs.length->1<=s.xs.getD 2 0/\s.xs.getD 2 0<=64:=λh=>hd _ (dz h)
 have hk0:=hkd _ (dz (k:=0) aa)
 have hk1:=hkd _ (dz (k:=1) aa)
 have hk2:=hkd _ (dz (k:=2) aa)
 have hk3:=hkd _ (dz (k:=3) aa)
 refine fH Tryz.func120 [.agg [ax n.ak,ax n.a,ax n.b,.c n.ay.val,ax n.lo,ax n.hi,ax n.size,.c n.data.val,.c n.aM.val,ax at_,.c sv.val]] ?_
 repeat' ((conv=>whnf)<;>first|refine acK ?_|(show bV ..;refine aH _ 0 hb rfl aa ?_)|(show fT ..;refine bY (hso.at_ hb) (j:=0) aa ?_)|(show bV ..;refine aH _ 1 hb rfl aa ?_)|(show fT ..;refine bY (hso.at_ hb) (j:=1) aa ?_)|(show bV ..;refine aH _ 2 hb rfl aa ?_)|(show fT ..;refine bY (hso.at_ hb) (j:=2) aa ?_)|(show bV ..;refine aH _ 0 hc rfl aa ?_)|(show fT ..;refine bY (hn.ay.at_ hc) (j:=0) aa ?_)|(show bV ..;refine aH _ 1 hc rfl aa ?_)|(show fT ..;refine bY (hn.ay.at_ hc) (j:=1) aa ?_)|(show bV ..;refine aH _ 2 hc rfl aa ?_)|(show fT ..;refine bY (hn.ay.at_ hc) (j:=2) aa ?_)|(show bV ..;refine aH _ 3 hc rfl aa ?_)|(show fT ..;refine bY (hn.ay.at_ hc) (j:=3) aa ?_)|(show aI _ 61 ..;refine aQ (f:=61) Tryz.call61 _ (λρ w' hw=>nJ w' (ρ 1).base (ρ 1).cap [n.ay.xs.getD 0 0,s.xs.getD 1 0-n.ay.xs.getD 2 0+1,s.xs.getD 2 0-n.ay.xs.getD 3 0+1] (eT hw List.mem_cons_self)) ?_)|(show b_ _ 4 ..;refine lu [] _ alE ?_)|refine bn ?_|refine ag ?_ ?_<;>intro _)
 all_goals first
  |(rw[if_neg aa,if_pos aa];exact Ki (λ_ _ h=>h) rfl List.mem_cons_self rfl (mem3 aa aa aa) fP rfl)
  |(rw[if_neg aa,if_neg aa];exact uy (λ_ _ h=>h) rfl rfl)
  |(rw[if_pos aa];exact uy (λ_ _ h=>h) rfl rfl)
section
variable {H:Heap} {S:bN} {nx:Nat} {l:List au} {r:Option (List Int)}
theorem nC{cx:Cx}{f:FuncId}{args:List SV}{K:SV->Heap->bN->Nat->Prop}{n:ai}(R0:Option (List Int))(hf:∀ar w,(callFunc f ar).run cx.P w= .ok (.enter f ar) w)(hr:R0=r)
 (hc:∀ρ w',eD cx.B ρ nx H S w'->Calls cx.P f (SV.eO ρ args).toArray w' (jS w' n l r))
 (h0:R0=none->∀v,K (.c (.tuple #[v,.bool false])) H S nx)
 (h1:∀u:au,R0=some u.xs->(u=n.ay\/u∈l)->K (.c (.tuple #[u.val,.bool true])) H S nx)
 (h2:∀u:au,R0=some u.xs->u.bq->K (.c (.tuple #[u.val,.bool true])) H (S.and (Jg cx.B.w0.heap.size u)) nx):aI cx f args H S nx K:=by
 subst hr
 rw[gN]
 refine⟨hf,λρ w hw=>(hc ρ w hw).mono ?_⟩
 rintro e w' ⟨v,ok,rfl,he,hok,hv⟩
 cases hr:R0 with
 |none=>
  rw[hr]at hok
  obtain rfl:ok=false:=hok
  exact⟨.c (.tuple #[v,.bool false]),ρ,H,S,nx,rfl,λ_ _=>rfl,Nat.le_refl _,SV.jk _,hw.ext he,h0 hr v⟩
 |some xs=>
  rw[hr]at hok
  obtain rfl:ok=true:=hok
  obtain⟨u,rfl,hu,hcase⟩:=hv xs hr
  rw[<-hu]at hr
  rcases hcase with hcase|hcase|⟨vC,hnew⟩
  ·exact⟨.c (.tuple #[u.val,.bool true]),ρ,H,S,nx,rfl,λ_ _=>rfl,Nat.le_refl _,SV.jk _,hw.ext he,h1 u hr (.inl hcase)⟩
  ·exact⟨.c (.tuple #[u.val,.bool true]),ρ,H,S,nx,rfl,λ_ _=>rfl,Nat.le_refl _,SV.jk _,hw.ext he,h1 u hr (.inr hcase)⟩
  ·refine⟨.c (.tuple #[u.val,.bool true]),ρ,H,S.and (Jg cx.B.w0.heap.size u),nx,rfl,λ_ _=>rfl,Nat.le_refl _,SV.jk _,?_,h2 u hr vC⟩
   obtain⟨R,φ,oo⟩:=hw
   have tH:=oo.step (Step.EW he) (λ_ _ h=>h) (λ_ _ _ _ h=>h)
   refine⟨λb=>R b\/(w.heap.size<=b/\b<w'.heap.size),φ,tH.os,tH.tape,tH.output,tH.size,tH.pin,λb hb=>hb.elim (tH.ro b) (λh=>h.2),⟨S.stable (λ_ h=> .inl h) (λ_ _=>rfl) tH.tq,?_⟩,tH.key,tH.kV,λp hp b hb hb'=> ?_,tH.sep⟩
   ·exact(bE u).stable (λb hb=>⟨.inr hb,Nat.le_trans oo.size hb.1⟩) (λ_ _=>rfl) hnew
   ·rcases hb' with hb'|hb'
    ·exact tH.apart p hp b hb hb'
    ·have:=bZ.size (oo.kV p hp) hb;omega
theorem FJ{B:Base}{w:World}{n:ai}(u:au)(hb:∀R w',S.holds R w'->(aO B.w0).holds R w')(hw0:B.w0=w)(hs:u.bq)(hr:r=some u.xs):
 jI B (.sN [.c u.val,.c (.bool true)]) H (S.and (Jg B.w0.heap.size u)) nx (jS w n l r):=by
 subst hw0 hr
 refine dH λρ w' hw=>⟨_,true,rfl,aZ hw (λR w' h=>hb R w' h.1),rfl,λxs h=>⟨u,rfl,by simpa using h,.inr (.inr ⟨hs,?_⟩)⟩⟩
 obtain⟨R,φ,hw⟩:=hw
 exact(bE u).stable (λb hb=>⟨hb.2,hw.ro b hb.1⟩) (λ_ _=>rfl) hw.tq.2
theorem aay(w:World)(n:ai)(hn:n.ok w)(at_:Int)(sv:a_)(hs:sv.ok w)(hf:Aa n sv.l.length)(hg:∀s∈sv.l,0<az s.xs):
 Calls Tryz.prog 59 #[mV n at_ sv.val] w (jS w n sv.l (bR n (sv.l.map (·.xs)))):=by
 by_cases h12:n.ak=1\/n.ak=2
 ·have hsp:bR n (sv.l.map (·.xs))=some n.ay.xs:=by unfold bR;rw[if_pos h12]
  refine fH Tryz.func59 [.agg [ax n.ak,ax n.a,ax n.b,.c n.ay.val,ax n.lo,ax n.hi,ax n.size,.c n.data.val,.c n.aM.val,ax at_,.c sv.val]] ?_
  repeat' ((conv=>whnf)<;>first|(show aI _ 118 ..;(refine nC (f:=118) (n:=n) (l:=sv.l) (bR n (sv.l.map (·.xs))) Tryz.call118 hsp (λρ w' hw=>akP w' n at_ sv) ?_ ?_ ?_<;>intros))|refine aX ?_|refine ag ?_ ?_<;>intro _)
  all_goals first
   |exact uy (λ_ _ h=>h) rfl vJ
   |exact vz _ (λ_ _ h=>h) rfl vJ vJ
   |exact FJ _ (λ_ _ h=>h) rfl vJ vJ
 ·obtain⟨ha0,ha1⟩:=hf.a aa aa
  obtain⟨i,hia⟩:=Int.eq_ofNat_of_zero_le ha0
  have hil:i<sv.l.length:=by omega
  obtain⟨s,hi⟩:∃s,sv.l[i]? =some s:=⟨_,List.getElem?_eq_getElem hil⟩
  have hA:(sv.l.map (·.xs)).getD n.a.toNat []=s.xs:=by rw[hia];simp[List.getD,hi]
  have hgs:=hg s (List.mem_of_getElem? hi)
  by_cases h6:n.ak=6
  ·obtain⟨hb0,hb1⟩:=hf.b h6
   obtain⟨j,hjb⟩:=Int.eq_ofNat_of_zero_le hb0
   have hjl:j<sv.l.length:=by omega
   obtain⟨t,hj⟩:∃t,sv.l[j]? =some t:=⟨_,List.getElem?_eq_getElem hjl⟩
   have hB:(sv.l.map (·.xs)).getD n.b.toNat []=t.xs:=by rw[hjb];simp[List.getD,hj]
   have hsp:bR n (sv.l.map (·.xs))=if s.xs=t.xs then some s.xs else none:=by
    unfold bR;simp only[hA,hB];repeat(first|rw[if_pos aa]|rw[if_neg aa])
   refine fH Tryz.func59 [.agg [ax n.ak,ax n.a,ax n.b,.c n.ay.val,ax n.lo,ax n.hi,ax n.size,.c n.data.val,.c n.aM.val,ax at_,.c sv.val]] ?_
   repeat' ((conv=>whnf)<;>first|(show aI _ 122 ..;(refine nC (f:=122) (n:=n) (l:=sv.l) (bR n (sv.l.map (·.xs))) Tryz.call122 hsp (λρ w' hw=>amh w' n at_ sv (ae hw λR h=>hs.later h) i j s t hi hia hj hjb) ?_ ?_ ?_<;>intros))|refine aX ?_|refine ag ?_ ?_<;>intro _)
   all_goals first
    |exact uy (λ_ _ h=>h) rfl vJ
    |exact vz _ (λ_ _ h=>h) rfl vJ vJ
    |exact FJ _ (λ_ _ h=>h) rfl vJ vJ
  ·refine fH Tryz.func59 [.agg [ax n.ak,ax n.a,ax n.b,.c n.ay.val,ax n.lo,ax n.hi,ax n.size,.c n.data.val,.c n.aM.val,ax at_,.c sv.val]] ?_
   repeat' ((conv=>whnf)<;>first|(show aI _ 117 ..;(refine nC (f:=117) (n:=n) (l:=sv.l) (bR n (sv.l.map (·.xs))) Tryz.call117 Yk (λρ w' hw=>ajY w' n at_ sv (ae hw λR h=>hs.later h) i s hi hia) ?_ ?_ ?_<;>intros))|(show aI _ 119 ..;(refine nC (f:=119) (n:=n) (l:=sv.l) (bR n (sv.l.map (·.xs))) Tryz.call119 Yk (λρ w' hw=>agV w' n (ae hw λR h=>hn.later h) at_ sv (ae hw λR h=>hs.later h) i s hi hia (hf.aM aa).2) ?_ ?_ ?_<;>intros))|(show aI _ 120 ..;(refine nC (f:=120) (n:=n) (l:=sv.l) (bR n (sv.l.map (·.xs))) Tryz.call120 Yk (λρ w' hw=>ajs w' n (ae hw λR h=>hn.later h) at_ sv (ae hw λR h=>hs.later h) i s hi hia (hf.X3 aa) hgs) ?_ ?_ ?_<;>intros))|(show aI _ 121 ..;(refine nC (f:=121) (n:=n) (l:=sv.l) (bR n (sv.l.map (·.xs))) Tryz.call121 Yk (λρ w' hw=>aks w' n (ae hw λR h=>hn.later h) at_ sv (ae hw λR h=>hs.later h) i s hi hia (hf.pool aa) hgs) ?_ ?_ ?_<;>intros))|(show aI _ 123 ..;(refine nC (f:=123) (n:=n) (l:=sv.l) (bR n (sv.l.map (·.xs))) Tryz.call123 Yk (λρ w' hw=>ako w' n (ae hw λR h=>hn.later h) at_ sv (ae hw λR h=>hs.later h) i s hi hia) ?_ ?_ ?_<;>intros))|refine aX ?_|refine ag ?_ ?_<;>intro _)
   all_goals first
    |exact uy (λ_ _ h=>h) rfl vJ
    |exact vz _ (λ_ _ h=>h) rfl vJ vJ
    |exact FJ _ (λ_ _ h=>h) rfl vJ vJ
end
section
variable {base:Option Addr} {len cap size:Nat} {K:SV->Prop}
theorem O9(hb:base=none)(hl:len=0)(h:K (.c (.slice none 0 0))):l7 base len cap size none (some (len:Int)) (some (len:Int)) K:=by
 subst hb hl
 exact Kb (Nat.zero_le _) h
theorem Df{a:Addr}(hb:base=some a)(hc:len<=cap)(h:K (.c (.slice (some a) len len))):l7 base len cap size none (some (len:Int)) (some (len:Int)) K:=by
 subst hb
 exact Kb hc h
variable {B:Base} {ρ:Nat->SX.Loc} {nx i m:Nat} {H:Heap} {S:bN} {w:World} {T:TypeId} {R:List (List Value)} {xs:List Int}
theorem Ma(hw:eD B ρ nx H S w)(he:(i,bZ.rows R 1 T)∈H)(hR:R=aN xs)(hm:m=xs.length)(hf:∀x∈xs,i64 x)(hl:xs.length<=1000000):
 ∃v:au,(SV.eO ρ [.os i m]).toArray= #[v.val]/\v.xs=xs/\v.ok w:=by
 subst hR hm
 refine⟨⟨(ρ i).base,(ρ i).cap,xs⟩,rfl,rfl,eT hw he,hf,?_,hl⟩
 obtain⟨R,φ,hw⟩:=hw
 have:=(hw.kV _ he).2.1
 simpa[aJ]using this
theorem PM(hw:eD B ρ nx H S w)(he:(i,bZ.rows R 1 T)∈H)(hR:R=aN xs)(hm:m=xs.length)(hf:∀x∈xs,i64 x)(hl:xs.length<=1000000)(h1:1<=xs.length):
 Calls Tryz.prog 53 (SV.eO ρ [.os i m]).toArray w λe w'=>e= .returned (.int .i64 (foldI max xs))/\Ext w w':=by
 obtain⟨v,e1,rfl,hv⟩:=Ma hw he hR hm hf hl
 rw[e1];exact PO w v hv h1
theorem QZ(hw:eD B ρ nx H S w)(he:(i,bZ.rows R 1 T)∈H)(hR:R=aN xs)(hm:m=xs.length)(hf:∀x∈xs,i64 x)(hl:xs.length<=1000000)(h1:1<=xs.length):
 Calls Tryz.prog 52 (SV.eO ρ [.os i m]).toArray w λe w'=>e= .returned (.int .i64 (foldI min xs))/\Ext w w':=by
 obtain⟨v,e1,rfl,hv⟩:=Ma hw he hR hm hf hl
 rw[e1];exact PS w v hv h1
theorem Eg:∀(xs:List Int) (a b:Int),xs.foldl max a<=b↔a<=b/\∀x∈xs,x<=b
 |[],a,b=>by simp
 |x::r,a,b=>by
  rw[List.foldl_cons,Eg r]
  simp only[List.mem_cons,forall_eq_or_imp]
  constructor
  ·rintro⟨h1,h2⟩;exact⟨by omega,by omega,h2⟩
  ·rintro⟨h1,h2,h3⟩;exact⟨by omega,h3⟩
theorem Dr:∀(xs:List Int) (a b:Int),b<=xs.foldl min a↔b<=a/\∀x∈xs,b<=x
 |[],a,b=>by simp
 |x::r,a,b=>by
  rw[List.foldl_cons,Dr r]
  simp only[List.mem_cons,forall_eq_or_imp]
  constructor
  ·rintro⟨h1,h2⟩;exact⟨by omega,by omega,h2⟩
  ·rintro⟨h1,h2,h3⟩;exact⟨by omega,h3⟩
variable {b:Int}
theorem Qg(h:xs≠[]):foldI max xs<=b↔∀x∈xs,x<=b:=by
 cases xs with
 |nil=>exact absurd rfl h
 |cons x r=>simp only[foldI,Eg,List.mem_cons,forall_eq_or_imp]
theorem Rx(h:xs≠[]):b<=foldI min xs↔∀x∈xs,b<=x:=by
 cases xs with
 |nil=>exact absurd rfl h
 |cons x r=>simp only[foldI,Dr,List.mem_cons,forall_eq_or_imp]
theorem Cz(xs:List Int):qz xs=decide (foldI max (xs++[0])<=1048576/\ -1048576<=foldI min (xs++[0])):=by
 rw[qz,Bool.eq_iff_iff]
 simp only[List.all_eq_true,decide_eq_true_eq]
 rw[Qg fP,Rx fP]
 simp only[List.mem_append,List.mem_singleton]
 constructor
 ·intro h
  exact⟨λx hx=>hx.elim (λg=>(h x g).2) (λg=>by omega),λx hx=>hx.elim (λg=>(h x g).1) (λg=>by omega)⟩
 ·rintro⟨h1,h2⟩ x hx
  exact⟨h2 x (.inl hx),h1 x (.inl hx)⟩
@[irreducible] def g_ (n:ai):Bool:=qz n.data.xs&&qz n.aM.xs&&qz [n.lo,n.hi]&&decide (n.lo<=n.hi)
theorem L9{v:au}(h:v.ok w):(v.base=none/\v.xs=[])\/∃a,v.base=some a:=by
 cases hb:v.base with
 |none=>
  left
  refine⟨rfl,?_⟩
  rcases h.rows with h|⟨a,ha,_⟩
  ·simpa[aN]using h
  ·rw[hb]at ha;cases ha
 |some a=>exact .inr ⟨a,rfl⟩
theorem Ql(h:∀x∈xs,-9223372036854775808<=x/\x<=9223372036854775807):∀x∈xs++[0],i64 x:=by
 intro x hx
 rcases List.mem_append.1 hx with hx|hx
 ·exact h x hx
 ·simp at hx;subst hx;exact⟨by decide,by decide⟩
theorem afA(w:World)(n:ai)(hn:n.ok w)(hd:n.data.xs.length<=5000)(hbi:n.aM.xs.length<=5000)(at_:Int)(sv:Value):
 Calls Tryz.prog 60 #[mV n at_ sv] w λe w'=>e= .returned (.bool (g_ n))/\Ext w w':=by
 have hD:=Cz n.data.xs
 have hBi:=Cz n.aM.xs
 have hL:=Cz [n.lo,n.hi]
 have fD:=Ql hn.data.fits
 have fB:=Ql hn.aM.fits
 have fL:∀x∈[n.lo,n.hi]++[0],i64 x:=Ql (by intro x hx;simp at hx;rcases hx with rfl|rfl;exact hn.kH;exact hn.kJ)
 have hfD:=hn.data.room
 have hfB:=hn.aM.room
 have hDn:n.data.xs=[]->foldI max (n.data.xs++[0])=0/\foldI min (n.data.xs++[0])=0:=λh=>by rw[h];exact⟨rfl,rfl⟩
 have hBn:n.aM.xs=[]->foldI max (n.aM.xs++[0])=0/\foldI min (n.aM.xs++[0])=0:=λh=>by rw[h];exact⟨rfl,rfl⟩
 rcases L9 hn.data with⟨bD,xD⟩|⟨aD,bD⟩<;>rcases L9 hn.aM with⟨bB,xB⟩|⟨aB,bB⟩
 all_goals
  try have qD:=hDn xD
  try have qB:=hBn xB
  refine fH Tryz.func60 [.agg [ax n.ak,ax n.a,ax n.b,.c n.ay.val,ax n.lo,ax n.hi,ax n.size,.c n.data.val,.c n.aM.val,ax at_,.c sv]] ?_
  repeat' ((conv=>whnf)<;>first|refine aX ?_)
  refine Wp.freeze 1 (xs:=aN [n.lo,n.hi]) (k:=1) (T:=3) (List.mem_cons_of_mem _ List.mem_cons_self) ?_
  intro l hl
  have hl2:2<=l.cap:=hl
  refine Wp.know (p:=∃a,l.base=some a/\∀R w',((aO w).and (fC l.base 1 (aN [n.lo,n.hi]))).holds R w'->bu w' (some a) 1 (aN [n.lo,n.hi])) ?_ ?_
  ·rintro ρ w' ⟨R,φ,hw⟩
   obtain⟨b,off,hb,_⟩:=hw.tq.2.2.resolve_left (by simp[aN])
   exact⟨_,hb,λR' w'' h=>by rw[<-hb];exact aV h.2⟩
  rintro⟨aL,bL,hRL⟩
  refine Wp.rounds 4 ?_
  repeat' ((conv=>whnf)<;>first|(show l7 ..;(first|refine O9 bD (by simp[xD]) ?_|refine O9 bB (by simp[xB]) ?_|refine Df bD aa ?_|refine Df bB aa ?_|refine Df bL aa ?_))|(show gP ..;(refine dP (by first|omega|decide|(show(n.data.xs.length+1)*8<=140737488355328;omega)|(show(n.aM.xs.length+1)*8<=140737488355328;omega)) ?_))|(show uA ..;(first|refine mQ (aJ _) (λR w' h=>hn.data.at_ bD R w' h.1) kL ?_|refine mQ (aJ _) (λR w' h=>hn.aM.at_ bB R w' h.1) kL ?_|refine mQ (by simp[aN]) hRL kL ?_))|(show aI _ 53 ..;(refine aQ (f:=53) Tryz.call53 (.int .i64 (foldI max (n.data.xs++[0]))) (λρ w' hw=>PM hw List.mem_cons_self (xs:=n.data.xs++[0]) af3 acu fD yL fP) ?_))|(show aI _ 53 ..;(refine aQ (f:=53) Tryz.call53 (.int .i64 (foldI max (n.aM.xs++[0]))) (λρ w' hw=>PM hw List.mem_cons_self (xs:=n.aM.xs++[0]) ag0 acu fB yL fP) ?_))|(show aI _ 53 ..;refine aQ (f:=53) Tryz.call53 (.int .i64 (foldI max ([n.lo,n.hi]++[0]))) (λρ w' hw=>PM hw List.mem_cons_self (xs:=[n.lo,n.hi]++[0]) rfl rfl fL fP fP) ?_)|(show aI _ 52 ..;(refine aQ (f:=52) Tryz.call52 (.int .i64 (foldI min (n.data.xs++[0]))) (λρ w' hw=>QZ hw List.mem_cons_self (xs:=n.data.xs++[0]) af3 acu fD yL fP) ?_))|(show aI _ 52 ..;(refine aQ (f:=52) Tryz.call52 (.int .i64 (foldI min (n.aM.xs++[0]))) (λρ w' hw=>QZ hw List.mem_cons_self (xs:=n.aM.xs++[0]) ag0 acu fB yL fP) ?_))|(show aI _ 52 ..;refine aQ (f:=52) Tryz.call52 (.int .i64 (foldI min ([n.lo,n.hi]++[0]))) (λρ w' hw=>QZ hw List.mem_cons_self (xs:=[n.lo,n.hi]++[0]) rfl rfl fL fP fP) ?_)|refine aX ?_|refine ag ?_ ?_<;>intro _)
  all_goals(conv=>whnf)
  all_goals(refine bf (B:=⟨w,[]⟩) (w:=w) (S:=(aO w).and (fC l.base 1 (aN [n.lo,n.hi]))) (λ_ _ h=>h.1) rfl ?_;unfold g_;(first|rw[show qz n.data.xs=true from by rw[xD];rfl]|rw[hD]);(first|rw[show qz n.aM.xs=true from by rw[xB];rfl]|rw[hBi]);rw[hL])
  all_goals first|(simp only[Bool.and_eq_false_iff,decide_eq_false_iff_not];omega)|((repeat rw[decide_eq_true aa]);rfl)
end
section
structure bG where
 base:Option Addr
 cap:Nat
 l:List ai
 out:Int
def bF(l:List ai):List (List Value):=l.map ai.cells
theorem dS(l:List ai):(bF l).length=l.length:=by simp[bF]
theorem bU{l:List ai}{k:Nat}(h:k<l.length):(bF l)[k]? =some l[k].cells:=by simp[bF,h]
def bG.val(g:bG):Value:= .agg #[.slice g.base g.l.length g.cap,.int .i64 g.out]
structure ai.small(n:ai):Prop where
 data:n.data.xs.length<=5000
 aM:n.aM.xs.length<=5000
structure bG.ok(w:World)(g:bG):Prop where
 rows:bu w g.base 9 (bF g.l)
 each:∀n∈g.l,n.ok w
 small:∀n∈g.l,n.small
 few:g.l.length<=1000000
 I9:i64 g.out
theorem bG.ok.later{w w':World}{R:Nat->Prop}{g:bG}(h:g.ok w)(hb:(aO w).holds R w'):g.ok w':=⟨aA hb h.rows,λn hn=>(h.each n hn).later hb,h.small,h.few,h.I9⟩
def eX:List ai->List (List Int)->Int×List (List Int)
 |[],sh=>(0,sh)
 |n::r,sh=>if cZ n sh.length=false then(3,[])else
  match bR n sh with
  |none=>(4,[])
  |some s=>if g_ n=false then(5,[])else eX r (sh++[s])
def check(g:bG):Int×List (List Int):=if g.l.length<1\/24<g.l.length\/g.out<0\/(g.l.length:Int)<=g.out then(3,[])else eX g.l []
variable {r:List ai} {sh:List (List Int)}
theorem sH{n:ai}(h:cZ n sh.length=false):eX (n::r) sh=(3,[]):=by simp only[eX];rw[if_pos h]
theorem qF{n:ai}(h:cZ n sh.length=true)(hs:bR n sh=none):eX (n::r) sh=(4,[]):=by simp only[eX];rw[if_neg NY,hs]
variable {s:List Int}
theorem kK{n:ai}(h:cZ n sh.length=true)(hs:bR n sh=some s)(hn:g_ n=false):eX (n::r) sh=(5,[]):=by simp only[eX];rw[if_neg NY,hs];simp only;rw[if_pos hn]
theorem iG{n:ai}(h:cZ n sh.length=true)(hs:bR n sh=some s)(hn:g_ n=true):eX (n::r) sh=eX r (sh++[s]):=by simp only[eX];rw[if_neg NY,hs];simp only;rw[if_neg (by simp[hn])]
def jE(sv:a_):bN where
 holds R w:=(fC sv.base 1 (aS sv.l)).holds R w/\∀u∈sv.l,(bE u).holds R w
 stable:=λhR hw h=>⟨(fC _ _ _).stable hR hw h.1,λu hu=>(bE u).stable hR hw (h.2 u hu)⟩
def lZ(N:Nat)(l:List au):bN where
 holds R w:=∀u∈l,(Jg N u).holds R w
 stable:=λhR hw h u hu=>(Jg N u).stable hR hw (h u hu)
theorem xR(N:Nat)(R:Nat->Prop)(w:World):(lZ N []).holds R w:=λu hu=>by simp at hu
theorem kX{N:Nat}{l:List au}{u:au}{R:Nat->Prop}{w:World}(h:(lZ N l).holds R w)(hu:(Jg N u).holds R w):(lZ N (l++[u])).holds R w:=by
 intro v hv
 rcases List.mem_append.1 hv with hv|hv
 ·exact h v hv
 ·simp at hv;subst hv;exact hu
def rM(w:World)(r:Int×List (List Int))(e:Ending)(w':World):Prop:=
 ∃(v:Value),e= .returned (.tuple #[v,.int .i64 r.1])/\Ext w w'/\(r.1≠0->v= .slice none 0 0)/\
  (r.1=0->∃sv:a_,v=sv.val/\sv.l.map (·.xs)=r.2/\(∀u∈sv.l,u.bq)/\(jE sv).holds (λb=>w.heap.size<=b/\b<w'.heap.size) w'/\sv.l.length<=sv.cap)
variable {B:Base} {H:Heap} {nx:Nat}
theorem mH{S:bN}{w:World}{r:Int×List (List Int)}{k:Int}(hb:∀R w',S.holds R w'->(aO B.w0).holds R w')(hw0:B.w0=w)(hr:r=(k,[]))(hk:k≠0):jI B (.sN [.c (.slice none 0 0),ax k]) H S nx (rM w r):=by
 subst hw0 hr
 exact dH λρ w' hw=>⟨_,rfl,aZ hw hb,λ_=>rfl,λh=>absurd h hk⟩
variable {i:Nat} {T:TypeId}
theorem O4{S:bN}{m:Nat}{w:World}{r:Int×List (List Int)}{us:List au}(hb:∀R w',S.holds R w'->(aO B.w0).holds R w')(hs:∀R w',S.holds R w'->(lZ B.w0.heap.size us).holds R w')(vC:∀u∈us,u.bq)(hw0:B.w0=w)(he:(i,bZ.rows (aS us) 1 T)∈H)(hm:m=us.length)(hr:r=(0,us.map (·.xs))):
 jI B (.sN [.os i m,ax 0]) H S nx (rM w r):=by
 subst hw0 hr hm
 refine dH λρ w' hw=>⟨_,rfl,aZ hw hb,λh=>absurd rfl h,λ_=> ?_⟩
 have hn:=dK hw hb he
 obtain⟨base,cap,e1,h1⟩:=fJ hn
 obtain⟨l',e2,F,_,_,hcap,_⟩:=hn
 have e3:cap=l'.cap:=by
  have:=e1.symm.trans e2
  simp only[Value.slice.injEq]at this
  exact this.2.2
 refine⟨⟨base,cap,us⟩,?_,rfl,vC,⟨h1,λu hu=>oC hw λR w'' h=>hs R w'' h u hu⟩,?_⟩
 ·rw[aW]at e1
  exact e1
 ·rw[aW]at hcap
  show us.length<=cap
  omega
theorem Kk{cx:Cx}{f:FuncId}{args:List SV}{S:bN}{K:SV->Heap->bN->Nat->Prop}(xs:List Int)(hf:∀ar w,(callFunc f ar).run cx.P w= .ok (.enter f ar) w)(hfit:∀x∈xs,-9223372036854775808<=x/\x<=9223372036854775807)(hl:xs.length<=1000000)
 (hc:∀ρ w',eD cx.B ρ nx H S w'->Calls cx.P f (SV.eO ρ args).toArray w' (λe w''=>∃v,e= .returned v/\Ext w' w''/\kv w' w'' v 1 3 (aN xs)))
 (h:∀u:au,u.xs=xs->u.bq->K (.c u.val) H (S.and (Jg cx.B.w0.heap.size u)) nx):aI cx f args H S nx K:=by
 refine gX hf au.val bE (λu=>u.xs=xs/\u.bq) (λρ w' hw=>(hc ρ w' hw).mono ?_) (λu hu=>h u hu.1 hu.2)
 rintro e w'' ⟨v,rfl,he,hn⟩
 obtain⟨u,rfl,h1,h2,h3⟩:=uD hn hfit hl
 exact⟨u,⟨h1,h2⟩,rfl,he,h3⟩
theorem Gq(l:List au)(u:au):aS (l++[u])=aS l++[[u.val]]:=by simp[aS]
theorem Mj{ρ:Nat->SX.Loc}{S:bN}{w:World}{N:Nat}{us:List au}(hw:eD B ρ nx H S w)(he:(i,bZ.rows (aS us) 1 T)∈H)(hS:∀R w',S.holds R w'->(lZ N us).holds R w')(fI:∀u∈us,u.bq/\0<az u.xs)(hl:us.length<=24):
 (⟨(ρ i).base,(ρ i).cap,us⟩:a_).ok w:=
 ⟨eT hw he,λu hu=>ae hw λR h=>bT (fI u hu).1 ((bE u).mono (hS R w h u hu) (λb hb=>hb.1)),hl⟩
section
variable {w w':World} {R:Nat->Prop} {n:ai} {us:List au} {u:au} {S:bN} {N:Nat}
theorem ZX(hn:n.ok w)(fI:∀u∈us,u.bq/\0<az u.xs)(hu:u=n.ay\/u∈us):u.bq:=hu.elim (λh=>h▸hn.ay.bq) (λh=>(fI u h).1)
theorem amB(hn:n.ok w)(fI:∀u∈us,u.bq/\0<az u.xs)(hu:u=n.ay\/u∈us)(h:((aO w).and (lZ N us)).holds R w'):u.ok w':=
 hu.elim (λe=>e▸hn.ay.later h.1) (λe=>bT (fI u e).1 ((bE u).mono (h.2 u e) (λb hb=>hb.1)))
theorem ak3(hu:u.bq)(h:(S.and (Jg N u)).holds R w'):u.ok w':=bT hu ((bE u).mono h.2 (λb hb=>hb.1))
end
theorem EY{us:List au}{v:au}(fI:∀u∈us,u.bq/\0<az u.xs)(h1:v.bq)(h2:0<az v.xs):∀u∈us++[v],u.bq/\0<az u.xs:=by
 intro u hu
 rcases List.mem_append.1 hu with hu|hu
 ·exact fI u hu
 ·simp at hu;subst hu;exact⟨h1,h2⟩
theorem wX(us:List au)(v:au):(i,bZ.rows (aS (us++[v])) 1 T)∈(i,bZ.rows (List.take us.length (aS us)++[[v.val]]) 1 T)::H:=by
 rw[Gq,List.take_of_length_le Su]
 exact List.mem_cons_self
theorem pV(w:World)(g:bG)(hg:g.ok w):Calls Tryz.prog 24 #[g.val] w (rM w (check g)):=by
 by_cases hc:g.l.length<1\/24<g.l.length\/g.out<0\/(g.l.length:Int)<=g.out
 ·have hs:check g=(3,[]):=by unfold check;rw[if_pos hc]
  rw[hs]
  refine fH Tryz.func24 [.agg [.c (.slice g.base g.l.length g.cap),ax g.out]] ?_
  repeat' ((conv=>whnf)<;>first|refine aX ?_|refine ag ?_ ?_<;>intro _)
  all_goals exact mH (λ_ _ h=>h) rfl rfl aY
 ·have hs:check g=eX g.l []:=by unfold check;rw[if_neg hc]
  rw[hs]
  obtain⟨a,ha⟩:∃a,g.base=some a:=aP (j:=0) hg.rows Ca
  refine fH Tryz.func24 [.agg [.c (.slice g.base g.l.length g.cap),ax g.out]] ?_
  repeat' ((conv=>whnf)<;>first|refine aX ?_|refine ag ?_ ?_<;>intro _)
  refine Wp.loop (σ:=Nat×List au) 2 (λ⟨k,us⟩=>[(34,.c (.slice g.base g.l.length g.cap)),(35,ax g.l.length),(36,ax k),(4,.os 1 k)]) (λ⟨_,us⟩=>[(1,.rows (aS us) 1 32)]) (λ⟨_,us⟩=>(aO w).and (lZ w.heap.size us))
   (λ⟨k,us⟩=>k<=g.l.length/\us.length=k/\(∀u∈us,u.bq/\0<az u.xs)/\eX g.l []=eX (g.l.drop k) (us.map (·.xs))) (λs=>g.l.length-s.1) (0,[]) [(1,none)] aY (λs=>⟨rfl,rfl⟩) ⟨by simp,rfl,by simp,rfl⟩ ⟨rfl,⟨rfl,rfl,rfl,rfl,trivial⟩,⟨rfl,trivial⟩,λR w' h=>⟨h,xR _ _ _⟩⟩ ?_
  rintro⟨k,us⟩ ⟨hk,yJ,fI,he⟩
  by_cases hlt:k<g.l.length
  ·rw[drop_at hlt]at he
   have hn:=hg.each _ (List.getElem_mem hlt)
   have hsm:=hg.small _ (List.getElem_mem hlt)
   generalize hnk:g.l[k]=n at*
   have hrow:(bF g.l)[k]? =some n.cells:=by rw[bU hlt,hnk]
   subst yJ
   have hgs:∀s∈us.map (·.xs),0<az s:=λs hs=>by obtain⟨u,hu,rfl⟩:=List.mem_map.1 hs;exact(fI u hu).2
   have hlm:(us.map (·.xs)).length=us.length:=List.length_map _
   repeat' ((conv=>whnf)<;>first|(show bV ..;refine aH a us.length ha rfl hlt ?_)|refine U_ ?_|(show aI _ 58 ..;((refine fK (f:=58) Tryz.call58 _ (λρ w' hw=>adi w' n (ae hw λR h=>ae2) us.length ((SV.os 1 us.length).rf ρ)) ?_ ?_<;>intro hform)))|(show aI _ 59 ..;(refine nC (f:=59) (n:=n) (l:=us) (bR n (us.map λx:au=>x.xs)) Tryz.call59 rfl (λρ w' hw=>aay w' n (ae hw λR h=>ae2) us.length ⟨(ρ 1).base,(ρ 1).cap,us⟩ (Mj hw (List.mem_cons_of_mem _ (List.mem_cons_of_mem _ List.mem_cons_self)) (λR w' h=>h.2) fI aa) (dM hform) (λs hs=>(fI s hs).2)) (λhr v=> ?_) (λu hr hu=> ?_) (λu hr hu=> ?_)))|(show aI _ 60 ..;((refine fK (f:=60) Tryz.call60 _ (λρ w' hw=>afA w' n (ae hw λR h=>ae2) hsm.data hsm.aM us.length ((SV.os 1 us.length).rf ρ)) ?_ ?_<;>intro Yv)))|(show aI _ 32 ..;(refine Kk (f:=32) u.xs Tryz.call32 (by first|exact(ZX hn fI hu).fits|exact hu.fits) (by first|exact(ZX hn fI hu).few|exact hu.few) (λρ w' hw=>Bt w' u (ae hw λR h=>by first|exact amB hn fI hu h|exact ak3 hu h) (gM (jF (n:=n) (sh:=us.map λx:au=>x.xs) afS hgs hr rfl)).1) (λv hv hvs=> ?_)))|refine afu ?_|refine ZY ?_|refine aX ?_|refine ag ?_ ?_<;>intro _)
   all_goals(conv=>whnf)
   ·exact mH (B:=⟨w,[]⟩) (λ_ _ h=>h.1) rfl (he.trans (qF CK hr)) aY
   ·exact⟨(us.length+1,us++[v]),[(1,some 5)],⟨hlt,by simp,EY fI hvs (hv▸jF afm hgs hr rfl),he.trans ((iG CK hr Yv).trans (by rw[List.map_append,<-hv];rfl))⟩,by simp only;omega,rfl,bM,⟨wX us v,trivial⟩,λR w' h=>⟨h.1.1,kX h.1.2 h.2⟩⟩
   ·exact mH (B:=⟨w,[]⟩) (λ_ _ h=>h.1) rfl (he.trans (kK CK hr Yv)) aY
   ·exact⟨(us.length+1,us++[v]),[(1,some 5)],⟨hlt,by simp,EY fI hvs (hv▸jF afm hgs hr rfl),he.trans ((iG CK hr Yv).trans (by rw[List.map_append,<-hv];rfl))⟩,by simp only;omega,rfl,bM,⟨wX us v,trivial⟩,λR w' h=>⟨h.1.1.1,kX h.1.1.2 h.2⟩⟩
   ·exact mH (B:=⟨w,[]⟩) (λ_ _ h=>h.1.1) rfl (he.trans (kK CK hr Yv)) aY
   ·exact mH (B:=⟨w,[]⟩) (λ_ _ h=>h.1) rfl (he.trans (sH CK)) aY
  ·rw[List.drop_of_length_le aa]at he
   subst yJ
   repeat' ((conv=>whnf)<;>first|refine aX ?_|refine ag ?_ ?_<;>intro _)
   conv=>whnf
   exact O4 (B:=⟨w,[]⟩) (λ_ _ h=>h.1) (λ_ _ h=>h.2) (λu hu=>(fI u hu).1) rfl List.mem_cons_self rfl he
end
section
def bools(l:List Bool):List (List Value):=l.map λb=>[.bool b]
theorem RA(l:List Bool):(bools l).length=l.length:=by simp[bools]
structure Cu where
 base:Option Addr
 cap:Nat
 bs:List Bool
def Cu.val(v:Cu):Value:= .slice v.base v.bs.length v.cap
def fU(v:Cu):bN:=fC v.base 1 (bools v.bs)
def Be(w:World)(l:List Bool)(e:Ending)(w':World):Prop:=
 ∃u:Cu,(u.bs=l/\∃a,u.base=some a)/\e= .returned u.val/\Ext w w'/\(fU u).holds (λb=>w.heap.size<=b/\b<w'.heap.size) w'
variable {H:Heap} {S:bN} {nx:Nat} {l:List Bool} {w:World}
theorem Ld{B:Base}{i m:Nat}{T:TypeId}(hb:∀R w',S.holds R w'->(aO B.w0).holds R w')(hw0:B.w0=w)(he:(i,bZ.rows (bools l) 1 T)∈H)(hm:m=l.length)(hl:l≠[]):
 jI B (.os i m) H S nx (Be w l):=by
 subst hw0 hm
 refine dH λρ w' hw=> ?_
 have hn:=dK hw hb he
 obtain⟨base,cap,e1,h1⟩:=fJ hn
 rw[RA]at e1
 refine⟨⟨base,cap,l⟩,⟨rfl,?_⟩,by rw[e1];rfl,aZ hw hb,h1⟩
 rcases h1.2 with h|⟨b,off,h,_⟩
 ·exact absurd (by simpa[bools]using h) hl
 ·exact⟨_,h⟩
variable {j:Nat} {K:SV->Prop}
theorem bH{a:Addr}(hx:∀R w,S.holds R w->bu w (some a) 1 (bools l))(hj:j<l.length)(h:K (.c (.bool (l.getD j false)))):fT (a.add (j*1)) S K:=
 bA hx [.bool (l.getD j false)] (.bool (l.getD j false)) (by simp[bools,List.getD,hj]) rfl h
theorem bI{a:Addr}(p:Prop)[Decidable p](hx:∀R w,S.holds R w->bu w (some a) 1 (bools l))(hj:j<l.length)(he:l.getD j false=decide p)(h1:p->K (.c (.bool true)))(h2:¬p->K (.c (.bool false))):fT (a.add (j*1)) S K:=by
 refine bH hx hj ?_
 rw[he]
 by_cases hp:p
 ·rw[decide_eq_true hp];exact h1 hp
 ·rw[decide_eq_false hp];exact h2 hp
@[irreducible] def qg (k:Int):Option (List Bool):=
  if k=1 then some [false,false,true,true,false,false,false]
  else if k=2 then some [false,false,true,false,false,true,false]
  else if k=3 then some [true,false,false,false,false,true,true]
  else if k=4 then some [true,false,true,false,false,true,true]
  else if k=5 then some [true,false,false,false,true,false,false]
  else if k=6 then some [true,true,false,false,false,false,false]
  else if k=7 then some [true,false,false,false,false,true,false]
  else if k=8 then some [true,false,false,false,false,true,false]
  else if k=9 then some [true,false,true,false,false,false,false]
  else none
theorem rU(w:World)(k:Int)(l:List Bool)(hm:qg k=some l):Calls Tryz.prog 133 #[.int .i64 k] w (Be w l):=by
 unfold qg at hm
 refine fH Tryz.func133 [ax k] ?_
 repeat' ((conv=>whnf)<;>first|refine aX ?_|refine ag ?_ ?_<;>intro _)
 all_goals(repeat(first|rw[if_pos aa]at hm|rw[if_neg aa]at hm))
 all_goals first
  |(cases hm;done)
  |(obtain rfl:=Option.some.inj hm;exact Ld (λ_ _ h=>h) rfl List.mem_cons_self rfl fP)
theorem afj(w:World)(k:Int)(hm:qg k=none):Calls Tryz.prog 133 #[.int .i64 k] w λe w'=>e= .returned (.slice none 0 0)/\Ext w w':=by
 unfold qg at hm
 refine fH Tryz.func133 [ax k] ?_
 repeat' ((conv=>whnf)<;>first|refine aX ?_|refine ag ?_ ?_<;>intro _)
 all_goals(repeat(first|rw[if_pos aa]at hm|rw[if_neg aa]at hm))
 all_goals first
  |(cases hm;done)
  |exact cz (λ_ _ h=>h) (λ_=>rfl) rfl
def adA(n:ai):List Bool:=[decide (n.a≠0),decide (n.b≠0),decide ((n.ay.xs.length:Int)>0),decide (n.lo≠0\/n.hi≠0),decide (n.size≠0),decide ((n.data.xs.length:Int)>0),decide ((n.aM.xs.length:Int)>0)]
theorem xg{p:Prop}[Decidable p]{K:Bool->Prop}(h:K (decide p)):eZ p K:=by
 rw[zy]
 exact⟨λhp=>by rw[decide_eq_true hp]at h;exact h,λhp=>by rw[decide_eq_false hp]at h;exact h⟩
theorem ahh(w:World)(n:ai):Calls Tryz.prog 134 #[.agg n.cells.toArray] w (Be w (adA n)):=by
 refine fH Tryz.func134 [.agg (jN n)] ?_
 repeat' ((conv=>whnf)<;>first|(show @eZ _ _ _;(first|refine xg (p:=n.a≠0) ?_|refine xg (p:=n.b≠0) ?_|refine xg (p:=(n.ay.xs.length:Int)>0) ?_|refine xg (p:=n.size≠0) ?_|refine xg (p:=(n.data.xs.length:Int)>0) ?_|refine xg (p:=(n.aM.xs.length:Int)>0) ?_|refine cu aa ?_|refine dA aa ?_|(refine ag ?_ ?_<;>intro _)))|refine aX ?_)
 all_goals(conv=>whnf)
 all_goals refine Ld (B:=⟨w,[]⟩) (l:=adA n) (T:=4) (λ_ _ h=>h) rfl ?_ rfl (by simp[adA])
 all_goals(unfold adA;(first|rw[decide_eq_true (p:=n.lo≠0\/n.hi≠0) aa]|rw[decide_eq_false (p:=n.lo≠0\/n.hi≠0) aa]);exact List.mem_cons_self)
theorem ko{cx:Cx}{f:FuncId}{args:List SV}{K:SV->Heap->bN->Nat->Prop}(l:List Bool)(m:Nat)(hm:l.length=m)(hf:∀ar w,(callFunc f ar).run cx.P w= .ok (.enter f ar) w)
 (hc:∀ρ w',eD cx.B ρ nx H S w'->Calls cx.P f (SV.eO ρ args).toArray w' (Be w' l))
 (h:∀(u:Cu) (a:Addr),u.bs=l->u.base=some a->u.bs.length=m->K (.c u.val) H (S.and ((fU u).past cx.B.w0.heap.size)) nx):aI cx f args H S nx K:=
 gX hf Cu.val fU (λu=>u.bs=l/\∃a,u.base=some a) (λρ w' hw=>hc ρ w' hw) (λu hu=>hu.2.elim λa ha=>h u a hu.1 ha (by rw[hu.1,hm]))
theorem aG{u:Cu}{a:Addr}{N:Nat}{R:Nat->Prop}(hl:u.bs=l)(ha:u.base=some a)(h:((fU u).past N).holds R w):bu w (some a) 1 (bools l):=by
 subst hl
 rw[<-ha];exact aV h
variable {t:TypeId} {ti:TI} {ox oy:Operand}
theorem Du{P:Program}(h:lV P t=some ti)(hk:ti.ak=1){base:Option Addr}{len cap:Nat}{a:Addr}(hb:base=some a)(hK:K (.c (.bool false))):
 lY P (do eqGuard .eql t ox oy (.slice base len cap) (.slice none 0 0);binOp .eql t (.slice base len cap) (.slice none 0 0)) K:=by
 subst hb
 exact jR h hk hK
theorem BI{P:Program}(h:lV P t=some ti)(hk:ti.ak=1)(hK:K (.c (.bool true))):
 lY P (do eqGuard .eql t ox oy (.slice none 0 0) (.slice none 0 0);binOp .eql t (.slice none 0 0) (.slice none 0 0)) K:=jR h hk hK
theorem p_{n:ai}{a b sh sp si da bi:Bool}:kg n a b sh sp si da bi=decide (¬((n.a≠0/\a=false)\/(n.b≠0/\b=false)\/((n.ay.xs.length:Int)>0/\sh=false)\/((n.lo≠0\/n.hi≠0)/\sp=false)\/(n.size≠0/\si=false)\/((n.data.xs.length:Int)>0/\da=false)\/((n.aM.xs.length:Int)>0/\bi=false))):=by
 unfold kg
 rw[Bool.eq_iff_iff]
 simp only[Bool.and_eq_true,Bool.or_eq_true,decide_eq_true_eq]
 cases a<;>cases b<;>cases sh<;>cases sp<;>cases si<;>cases da<;>cases bi<;>simp only[Bool.false_eq_true,Bool.true_eq_false,false_or,true_or,and_false,and_true,or_false,true_and,reduceCtorEq]<;>first|omega|simp
end
theorem abu(w:World)(n:ai)(hn:n.ok w)(at_:Int)(hk:n.ak=1):
 Calls Tryz.prog 79 #[.agg n.cells.toArray,.int .i64 at_] w λe w'=>e= .returned (.bool (cZ n at_))/\Ext w w':=by
 have hm:qg n.ak=some [false,false,true,true,false,false,false]:=by unfold qg;rw[hk];rfl
 obtain⟨a,hbase⟩:=lN hn.ay
 have mX:cZ n at_=cZ n at_:=rfl
 conv at mX=>rhs;unfold cZ
 repeat(first|rw[if_pos aa]at mX|rw[if_neg aa]at mX)
 rw[p_]at mX
 simp only[jX]at mX
 refine fH Tryz.func79 [.agg (jN n),ax at_] ?_
 repeat' ((conv=>whnf)<;>first|(show aI _ 133 ..;refine ko (f:=133) [false,false,true,true,false,false,false] 7 rfl Tryz.call133 (λρ w' hw=>rU w' n.ak [false,false,true,true,false,false,false] hm) (λm am hml jU hmn=> ?_))|refine Jt ?_|(refine Ht ?_;intro h ah mh hah hhn)|refine bn ?_)
 refine Wp.rounds 8 ?_
 repeat' ((conv=>whnf)<;>first|refine Nb ?_|refine M4 ?_|refine Gv ?_|(show fT ..;(first|(refine bI (j:=0) (n.a≠0) (λR w' h=>aG mh hah gK) (show 0<7 by decide) rfl ?_ ?_<;>intro _)|refine bH (j:=0) (λR w' h=>aG hml jU gJ) (show 0<7 by decide) ?_|(refine bI (j:=1) (n.b≠0) (λR w' h=>aG mh hah gK) (show 1<7 by decide) rfl ?_ ?_<;>intro _)|refine bH (j:=1) (λR w' h=>aG hml jU gJ) (show 1<7 by decide) ?_|(refine bI (j:=2) ((n.ay.xs.length:Int)>0) (λR w' h=>aG mh hah gK) (show 2<7 by decide) rfl ?_ ?_<;>intro _)|refine bH (j:=2) (λR w' h=>aG hml jU gJ) (show 2<7 by decide) ?_|(refine bI (j:=3) (n.lo≠0\/n.hi≠0) (λR w' h=>aG mh hah gK) (show 3<7 by decide) rfl ?_ ?_<;>intro _)|refine bH (j:=3) (λR w' h=>aG hml jU gJ) (show 3<7 by decide) ?_|(refine bI (j:=4) (n.size≠0) (λR w' h=>aG mh hah gK) (show 4<7 by decide) rfl ?_ ?_<;>intro _)|refine bH (j:=4) (λR w' h=>aG hml jU gJ) (show 4<7 by decide) ?_|(refine bI (j:=5) ((n.data.xs.length:Int)>0) (λR w' h=>aG mh hah gK) (show 5<7 by decide) rfl ?_ ?_<;>intro _)|refine bH (j:=5) (λR w' h=>aG hml jU gJ) (show 5<7 by decide) ?_|(refine bI (j:=6) ((n.aM.xs.length:Int)>0) (λR w' h=>aG mh hah gK) (show 6<7 by decide) rfl ?_ ?_<;>intro _)|refine bH (j:=6) (λR w' h=>aG hml jU gJ) (show 6<7 by decide) ?_|refine bY (j:=0) (λR w' h=>hn.ay.at_ (hbase aa) R w' Hu) aa ?_))|refine bn ?_|refine ag ?_ ?_<;>intro _)
 all_goals(conv=>whnf)
 all_goals refine bf (B:=⟨w,[]⟩) (S:=((aO w).and ((fU m).past w.heap.size)).and ((fU h).past w.heap.size)) (λ_ _ h=>h.1.1) rfl ?_
 all_goals rw[mX]
 all_goals simp only[Bool.and_eq_true,Bool.and_eq_false_iff,decide_eq_true_eq,decide_eq_false_iff_not,reduceCtorEq,and_false,and_true,or_false,false_or]
 all_goals first|omega|(simp;omega)
theorem ab2(w:World)(n:ai)(hn:n.ok w)(at_:Int)(hk:n.ak=2):
 Calls Tryz.prog 79 #[.agg n.cells.toArray,.int .i64 at_] w λe w'=>e= .returned (.bool (cZ n at_))/\Ext w w':=by
 have hm:qg n.ak=some [false,false,true,false,false,true,false]:=by unfold qg;rw[hk];rfl
 obtain⟨a,hbase⟩:=lN hn.ay
 have mX:cZ n at_=cZ n at_:=rfl
 conv at mX=>rhs;unfold cZ
 repeat(first|rw[if_pos aa]at mX|rw[if_neg aa]at mX)
 rw[p_]at mX
 simp only[jX]at mX
 refine fH Tryz.func79 [.agg (jN n),ax at_] ?_
 repeat' ((conv=>whnf)<;>first|(show aI _ 133 ..;refine ko (f:=133) [false,false,true,false,false,true,false] 7 rfl Tryz.call133 (λρ w' hw=>rU w' n.ak [false,false,true,false,false,true,false] hm) (λm am hml jU hmn=> ?_))|refine Jt ?_|(refine Ht ?_;intro h ah mh hah hhn)|refine bn ?_)
 refine Wp.rounds 8 ?_
 repeat' ((conv=>whnf)<;>first|refine Nb ?_|refine M4 ?_|refine Gv ?_|(show fT ..;(first|(refine bI (j:=0) (n.a≠0) (λR w' h=>aG mh hah gK) (show 0<7 by decide) rfl ?_ ?_<;>intro _)|refine bH (j:=0) (λR w' h=>aG hml jU gJ) (show 0<7 by decide) ?_|(refine bI (j:=1) (n.b≠0) (λR w' h=>aG mh hah gK) (show 1<7 by decide) rfl ?_ ?_<;>intro _)|refine bH (j:=1) (λR w' h=>aG hml jU gJ) (show 1<7 by decide) ?_|(refine bI (j:=2) ((n.ay.xs.length:Int)>0) (λR w' h=>aG mh hah gK) (show 2<7 by decide) rfl ?_ ?_<;>intro _)|refine bH (j:=2) (λR w' h=>aG hml jU gJ) (show 2<7 by decide) ?_|(refine bI (j:=3) (n.lo≠0\/n.hi≠0) (λR w' h=>aG mh hah gK) (show 3<7 by decide) rfl ?_ ?_<;>intro _)|refine bH (j:=3) (λR w' h=>aG hml jU gJ) (show 3<7 by decide) ?_|(refine bI (j:=4) (n.size≠0) (λR w' h=>aG mh hah gK) (show 4<7 by decide) rfl ?_ ?_<;>intro _)|refine bH (j:=4) (λR w' h=>aG hml jU gJ) (show 4<7 by decide) ?_|(refine bI (j:=5) ((n.data.xs.length:Int)>0) (λR w' h=>aG mh hah gK) (show 5<7 by decide) rfl ?_ ?_<;>intro _)|refine bH (j:=5) (λR w' h=>aG hml jU gJ) (show 5<7 by decide) ?_|(refine bI (j:=6) ((n.aM.xs.length:Int)>0) (λR w' h=>aG mh hah gK) (show 6<7 by decide) rfl ?_ ?_<;>intro _)|refine bH (j:=6) (λR w' h=>aG hml jU gJ) (show 6<7 by decide) ?_|refine bY (j:=0) (λR w' h=>hn.ay.at_ (hbase aa) R w' Hu) aa ?_))|refine bn ?_|refine ag ?_ ?_<;>intro _)
 all_goals(conv=>whnf)
 all_goals refine bf (B:=⟨w,[]⟩) (S:=((aO w).and ((fU m).past w.heap.size)).and ((fU h).past w.heap.size)) (λ_ _ h=>h.1.1) rfl ?_
 all_goals rw[mX]
 all_goals simp only[Bool.and_eq_true,Bool.and_eq_false_iff,decide_eq_true_eq,decide_eq_false_iff_not,reduceCtorEq,and_false,and_true,or_false,false_or]
 all_goals first|omega|(simp;omega)
theorem abw(w:World)(n:ai)(hn:n.ok w)(at_:Int)(hk:n.ak=3):
 Calls Tryz.prog 79 #[.agg n.cells.toArray,.int .i64 at_] w λe w'=>e= .returned (.bool (cZ n at_))/\Ext w w':=by
 have hm:qg n.ak=some [true,false,false,false,false,true,true]:=by unfold qg;rw[hk];rfl
 obtain⟨a,hbase⟩:=lN hn.ay
 have mX:cZ n at_=cZ n at_:=rfl
 conv at mX=>rhs;unfold cZ
 repeat(first|rw[if_pos aa]at mX|rw[if_neg aa]at mX)
 rw[p_]at mX
 simp only[jX]at mX
 refine fH Tryz.func79 [.agg (jN n),ax at_] ?_
 repeat' ((conv=>whnf)<;>first|(show aI _ 133 ..;refine ko (f:=133) [true,false,false,false,false,true,true] 7 rfl Tryz.call133 (λρ w' hw=>rU w' n.ak [true,false,false,false,false,true,true] hm) (λm am hml jU hmn=> ?_))|refine Jt ?_|(refine Ht ?_;intro h ah mh hah hhn)|refine bn ?_)
 refine Wp.rounds 8 ?_
 repeat' ((conv=>whnf)<;>first|refine Nb ?_|refine M4 ?_|refine Gv ?_|(show fT ..;(first|(refine bI (j:=0) (n.a≠0) (λR w' h=>aG mh hah gK) (show 0<7 by decide) rfl ?_ ?_<;>intro _)|refine bH (j:=0) (λR w' h=>aG hml jU gJ) (show 0<7 by decide) ?_|(refine bI (j:=1) (n.b≠0) (λR w' h=>aG mh hah gK) (show 1<7 by decide) rfl ?_ ?_<;>intro _)|refine bH (j:=1) (λR w' h=>aG hml jU gJ) (show 1<7 by decide) ?_|(refine bI (j:=2) ((n.ay.xs.length:Int)>0) (λR w' h=>aG mh hah gK) (show 2<7 by decide) rfl ?_ ?_<;>intro _)|refine bH (j:=2) (λR w' h=>aG hml jU gJ) (show 2<7 by decide) ?_|(refine bI (j:=3) (n.lo≠0\/n.hi≠0) (λR w' h=>aG mh hah gK) (show 3<7 by decide) rfl ?_ ?_<;>intro _)|refine bH (j:=3) (λR w' h=>aG hml jU gJ) (show 3<7 by decide) ?_|(refine bI (j:=4) (n.size≠0) (λR w' h=>aG mh hah gK) (show 4<7 by decide) rfl ?_ ?_<;>intro _)|refine bH (j:=4) (λR w' h=>aG hml jU gJ) (show 4<7 by decide) ?_|(refine bI (j:=5) ((n.data.xs.length:Int)>0) (λR w' h=>aG mh hah gK) (show 5<7 by decide) rfl ?_ ?_<;>intro _)|refine bH (j:=5) (λR w' h=>aG hml jU gJ) (show 5<7 by decide) ?_|(refine bI (j:=6) ((n.aM.xs.length:Int)>0) (λR w' h=>aG mh hah gK) (show 6<7 by decide) rfl ?_ ?_<;>intro _)|refine bH (j:=6) (λR w' h=>aG hml jU gJ) (show 6<7 by decide) ?_|refine bY (j:=0) (λR w' h=>hn.ay.at_ (hbase aa) R w' Hu) aa ?_))|refine bn ?_|refine ag ?_ ?_<;>intro _)
 all_goals(conv=>whnf)
 all_goals refine bf (B:=⟨w,[]⟩) (S:=((aO w).and ((fU m).past w.heap.size)).and ((fU h).past w.heap.size)) (λ_ _ h=>h.1.1) rfl ?_
 all_goals rw[mX]
 all_goals simp only[Bool.and_eq_true,Bool.and_eq_false_iff,decide_eq_true_eq,decide_eq_false_iff_not,reduceCtorEq,and_false,and_true,or_false,false_or]
 all_goals first|omega|(simp;omega)
theorem aa7(w:World)(n:ai)(hn:n.ok w)(at_:Int)(hk:n.ak=5):
 Calls Tryz.prog 79 #[.agg n.cells.toArray,.int .i64 at_] w λe w'=>e= .returned (.bool (cZ n at_))/\Ext w w':=by
 have hm:qg n.ak=some [true,false,false,false,true,false,false]:=by unfold qg;rw[hk];rfl
 obtain⟨a,hbase⟩:=lN hn.ay
 have mX:cZ n at_=cZ n at_:=rfl
 conv at mX=>rhs;unfold cZ
 repeat(first|rw[if_pos aa]at mX|rw[if_neg aa]at mX)
 rw[p_]at mX
 simp only[jX]at mX
 refine fH Tryz.func79 [.agg (jN n),ax at_] ?_
 repeat' ((conv=>whnf)<;>first|(show aI _ 133 ..;refine ko (f:=133) [true,false,false,false,true,false,false] 7 rfl Tryz.call133 (λρ w' hw=>rU w' n.ak [true,false,false,false,true,false,false] hm) (λm am hml jU hmn=> ?_))|refine Jt ?_|(refine Ht ?_;intro h ah mh hah hhn)|refine bn ?_)
 refine Wp.rounds 8 ?_
 repeat' ((conv=>whnf)<;>first|refine Nb ?_|refine M4 ?_|refine Gv ?_|(show fT ..;(first|(refine bI (j:=0) (n.a≠0) (λR w' h=>aG mh hah gK) (show 0<7 by decide) rfl ?_ ?_<;>intro _)|refine bH (j:=0) (λR w' h=>aG hml jU gJ) (show 0<7 by decide) ?_|(refine bI (j:=1) (n.b≠0) (λR w' h=>aG mh hah gK) (show 1<7 by decide) rfl ?_ ?_<;>intro _)|refine bH (j:=1) (λR w' h=>aG hml jU gJ) (show 1<7 by decide) ?_|(refine bI (j:=2) ((n.ay.xs.length:Int)>0) (λR w' h=>aG mh hah gK) (show 2<7 by decide) rfl ?_ ?_<;>intro _)|refine bH (j:=2) (λR w' h=>aG hml jU gJ) (show 2<7 by decide) ?_|(refine bI (j:=3) (n.lo≠0\/n.hi≠0) (λR w' h=>aG mh hah gK) (show 3<7 by decide) rfl ?_ ?_<;>intro _)|refine bH (j:=3) (λR w' h=>aG hml jU gJ) (show 3<7 by decide) ?_|(refine bI (j:=4) (n.size≠0) (λR w' h=>aG mh hah gK) (show 4<7 by decide) rfl ?_ ?_<;>intro _)|refine bH (j:=4) (λR w' h=>aG hml jU gJ) (show 4<7 by decide) ?_|(refine bI (j:=5) ((n.data.xs.length:Int)>0) (λR w' h=>aG mh hah gK) (show 5<7 by decide) rfl ?_ ?_<;>intro _)|refine bH (j:=5) (λR w' h=>aG hml jU gJ) (show 5<7 by decide) ?_|(refine bI (j:=6) ((n.aM.xs.length:Int)>0) (λR w' h=>aG mh hah gK) (show 6<7 by decide) rfl ?_ ?_<;>intro _)|refine bH (j:=6) (λR w' h=>aG hml jU gJ) (show 6<7 by decide) ?_|refine bY (j:=0) (λR w' h=>hn.ay.at_ (hbase aa) R w' Hu) aa ?_))|refine bn ?_|refine ag ?_ ?_<;>intro _)
 all_goals(conv=>whnf)
 all_goals refine bf (B:=⟨w,[]⟩) (S:=((aO w).and ((fU m).past w.heap.size)).and ((fU h).past w.heap.size)) (λ_ _ h=>h.1.1) rfl ?_
 all_goals rw[mX]
 all_goals simp only[Bool.and_eq_true,Bool.and_eq_false_iff,decide_eq_true_eq,decide_eq_false_iff_not,reduceCtorEq,and_false,and_true,or_false,false_or]
 all_goals first|omega|(simp;omega)
theorem abq(w:World)(n:ai)(hn:n.ok w)(at_:Int)(hk:n.ak=6):
 Calls Tryz.prog 79 #[.agg n.cells.toArray,.int .i64 at_] w λe w'=>e= .returned (.bool (cZ n at_))/\Ext w w':=by
 have hm:qg n.ak=some [true,true,false,false,false,false,false]:=by unfold qg;rw[hk];rfl
 obtain⟨a,hbase⟩:=lN hn.ay
 have mX:cZ n at_=cZ n at_:=rfl
 conv at mX=>rhs;unfold cZ
 repeat(first|rw[if_pos aa]at mX|rw[if_neg aa]at mX)
 rw[p_]at mX
 simp only[jX]at mX
 refine fH Tryz.func79 [.agg (jN n),ax at_] ?_
 repeat' ((conv=>whnf)<;>first|(show aI _ 133 ..;refine ko (f:=133) [true,true,false,false,false,false,false] 7 rfl Tryz.call133 (λρ w' hw=>rU w' n.ak [true,true,false,false,false,false,false] hm) (λm am hml jU hmn=> ?_))|refine Jt ?_|(refine Ht ?_;intro h ah mh hah hhn)|refine bn ?_)
 refine Wp.rounds 8 ?_
 repeat' ((conv=>whnf)<;>first|refine Nb ?_|refine M4 ?_|refine Gv ?_|(show fT ..;(first|(refine bI (j:=0) (n.a≠0) (λR w' h=>aG mh hah gK) (show 0<7 by decide) rfl ?_ ?_<;>intro _)|refine bH (j:=0) (λR w' h=>aG hml jU gJ) (show 0<7 by decide) ?_|(refine bI (j:=1) (n.b≠0) (λR w' h=>aG mh hah gK) (show 1<7 by decide) rfl ?_ ?_<;>intro _)|refine bH (j:=1) (λR w' h=>aG hml jU gJ) (show 1<7 by decide) ?_|(refine bI (j:=2) ((n.ay.xs.length:Int)>0) (λR w' h=>aG mh hah gK) (show 2<7 by decide) rfl ?_ ?_<;>intro _)|refine bH (j:=2) (λR w' h=>aG hml jU gJ) (show 2<7 by decide) ?_|(refine bI (j:=3) (n.lo≠0\/n.hi≠0) (λR w' h=>aG mh hah gK) (show 3<7 by decide) rfl ?_ ?_<;>intro _)|refine bH (j:=3) (λR w' h=>aG hml jU gJ) (show 3<7 by decide) ?_|(refine bI (j:=4) (n.size≠0) (λR w' h=>aG mh hah gK) (show 4<7 by decide) rfl ?_ ?_<;>intro _)|refine bH (j:=4) (λR w' h=>aG hml jU gJ) (show 4<7 by decide) ?_|(refine bI (j:=5) ((n.data.xs.length:Int)>0) (λR w' h=>aG mh hah gK) (show 5<7 by decide) rfl ?_ ?_<;>intro _)|refine bH (j:=5) (λR w' h=>aG hml jU gJ) (show 5<7 by decide) ?_|(refine bI (j:=6) ((n.aM.xs.length:Int)>0) (λR w' h=>aG mh hah gK) (show 6<7 by decide) rfl ?_ ?_<;>intro _)|refine bH (j:=6) (λR w' h=>aG hml jU gJ) (show 6<7 by decide) ?_|refine bY (j:=0) (λR w' h=>hn.ay.at_ (hbase aa) R w' Hu) aa ?_))|refine bn ?_|refine ag ?_ ?_<;>intro _)
 all_goals(conv=>whnf)
 all_goals refine bf (B:=⟨w,[]⟩) (S:=((aO w).and ((fU m).past w.heap.size)).and ((fU h).past w.heap.size)) (λ_ _ h=>h.1.1) rfl ?_
 all_goals rw[mX]
 all_goals simp only[Bool.and_eq_true,Bool.and_eq_false_iff,decide_eq_true_eq,decide_eq_false_iff_not,reduceCtorEq,and_false,and_true,or_false,false_or]
 all_goals first|omega|(simp;omega)
theorem aas(w:World)(n:ai)(hn:n.ok w)(at_:Int)(hk:n.ak=7):
 Calls Tryz.prog 79 #[.agg n.cells.toArray,.int .i64 at_] w λe w'=>e= .returned (.bool (cZ n at_))/\Ext w w':=by
 have hm:qg n.ak=some [true,false,false,false,false,true,false]:=by unfold qg;rw[hk];rfl
 obtain⟨a,hbase⟩:=lN hn.ay
 have mX:cZ n at_=cZ n at_:=rfl
 conv at mX=>rhs;unfold cZ
 repeat(first|rw[if_pos aa]at mX|rw[if_neg aa]at mX)
 rw[p_]at mX
 simp only[jX]at mX
 refine fH Tryz.func79 [.agg (jN n),ax at_] ?_
 repeat' ((conv=>whnf)<;>first|(refine aic ?_;intro m am hml jU hmn)|refine Jt ?_|(refine Ht ?_;intro h ah mh hah hhn)|refine bn ?_)
 refine Wp.rounds 8 ?_
 repeat' ((conv=>whnf)<;>first|refine Nb ?_|refine M4 ?_|refine Gv ?_|(show fT ..;(first|(refine bI (j:=0) (n.a≠0) (λR w' h=>aG mh hah gK) (show 0<7 by decide) rfl ?_ ?_<;>intro _)|refine bH (j:=0) (λR w' h=>aG hml jU gJ) (show 0<7 by decide) ?_|(refine bI (j:=1) (n.b≠0) (λR w' h=>aG mh hah gK) (show 1<7 by decide) rfl ?_ ?_<;>intro _)|refine bH (j:=1) (λR w' h=>aG hml jU gJ) (show 1<7 by decide) ?_|(refine bI (j:=2) ((n.ay.xs.length:Int)>0) (λR w' h=>aG mh hah gK) (show 2<7 by decide) rfl ?_ ?_<;>intro _)|refine bH (j:=2) (λR w' h=>aG hml jU gJ) (show 2<7 by decide) ?_|(refine bI (j:=3) (n.lo≠0\/n.hi≠0) (λR w' h=>aG mh hah gK) (show 3<7 by decide) rfl ?_ ?_<;>intro _)|refine bH (j:=3) (λR w' h=>aG hml jU gJ) (show 3<7 by decide) ?_|(refine bI (j:=4) (n.size≠0) (λR w' h=>aG mh hah gK) (show 4<7 by decide) rfl ?_ ?_<;>intro _)|refine bH (j:=4) (λR w' h=>aG hml jU gJ) (show 4<7 by decide) ?_|(refine bI (j:=5) ((n.data.xs.length:Int)>0) (λR w' h=>aG mh hah gK) (show 5<7 by decide) rfl ?_ ?_<;>intro _)|refine bH (j:=5) (λR w' h=>aG hml jU gJ) (show 5<7 by decide) ?_|(refine bI (j:=6) ((n.aM.xs.length:Int)>0) (λR w' h=>aG mh hah gK) (show 6<7 by decide) rfl ?_ ?_<;>intro _)|refine bH (j:=6) (λR w' h=>aG hml jU gJ) (show 6<7 by decide) ?_|refine bY (j:=0) (λR w' h=>hn.ay.at_ (hbase aa) R w' Hu) aa ?_))|refine bn ?_|refine ag ?_ ?_<;>intro _)
 all_goals(conv=>whnf)
 all_goals refine bf (B:=⟨w,[]⟩) (S:=((aO w).and ((fU m).past w.heap.size)).and ((fU h).past w.heap.size)) (λ_ _ h=>h.1.1) rfl ?_
 all_goals rw[mX]
 all_goals simp only[Bool.and_eq_true,Bool.and_eq_false_iff,decide_eq_true_eq,decide_eq_false_iff_not,reduceCtorEq,and_false,and_true,or_false,false_or]
 all_goals first|omega|(simp;omega)
theorem aaJ(w:World)(n:ai)(hn:n.ok w)(at_:Int)(hk:n.ak=8):
 Calls Tryz.prog 79 #[.agg n.cells.toArray,.int .i64 at_] w λe w'=>e= .returned (.bool (cZ n at_))/\Ext w w':=by
 have hm:qg n.ak=some [true,false,false,false,false,true,false]:=by unfold qg;rw[hk];rfl
 obtain⟨a,hbase⟩:=lN hn.ay
 have mX:cZ n at_=cZ n at_:=rfl
 conv at mX=>rhs;unfold cZ
 repeat(first|rw[if_pos aa]at mX|rw[if_neg aa]at mX)
 rw[p_]at mX
 simp only[jX]at mX
 refine fH Tryz.func79 [.agg (jN n),ax at_] ?_
 repeat' ((conv=>whnf)<;>first|(refine aic ?_;intro m am hml jU hmn)|refine Jt ?_|(refine Ht ?_;intro h ah mh hah hhn)|refine bn ?_)
 refine Wp.rounds 8 ?_
 repeat' ((conv=>whnf)<;>first|refine Nb ?_|refine M4 ?_|refine Gv ?_|(show fT ..;(first|(refine bI (j:=0) (n.a≠0) (λR w' h=>aG mh hah gK) (show 0<7 by decide) rfl ?_ ?_<;>intro _)|refine bH (j:=0) (λR w' h=>aG hml jU gJ) (show 0<7 by decide) ?_|(refine bI (j:=1) (n.b≠0) (λR w' h=>aG mh hah gK) (show 1<7 by decide) rfl ?_ ?_<;>intro _)|refine bH (j:=1) (λR w' h=>aG hml jU gJ) (show 1<7 by decide) ?_|(refine bI (j:=2) ((n.ay.xs.length:Int)>0) (λR w' h=>aG mh hah gK) (show 2<7 by decide) rfl ?_ ?_<;>intro _)|refine bH (j:=2) (λR w' h=>aG hml jU gJ) (show 2<7 by decide) ?_|(refine bI (j:=3) (n.lo≠0\/n.hi≠0) (λR w' h=>aG mh hah gK) (show 3<7 by decide) rfl ?_ ?_<;>intro _)|refine bH (j:=3) (λR w' h=>aG hml jU gJ) (show 3<7 by decide) ?_|(refine bI (j:=4) (n.size≠0) (λR w' h=>aG mh hah gK) (show 4<7 by decide) rfl ?_ ?_<;>intro _)|refine bH (j:=4) (λR w' h=>aG hml jU gJ) (show 4<7 by decide) ?_|(refine bI (j:=5) ((n.data.xs.length:Int)>0) (λR w' h=>aG mh hah gK) (show 5<7 by decide) rfl ?_ ?_<;>intro _)|refine bH (j:=5) (λR w' h=>aG hml jU gJ) (show 5<7 by decide) ?_|(refine bI (j:=6) ((n.aM.xs.length:Int)>0) (λR w' h=>aG mh hah gK) (show 6<7 by decide) rfl ?_ ?_<;>intro _)|refine bH (j:=6) (λR w' h=>aG hml jU gJ) (show 6<7 by decide) ?_|refine bY (j:=0) (λR w' h=>hn.ay.at_ (hbase aa) R w' Hu) aa ?_))|refine bn ?_|refine ag ?_ ?_<;>intro _)
 all_goals(conv=>whnf)
 all_goals refine bf (B:=⟨w,[]⟩) (S:=((aO w).and ((fU m).past w.heap.size)).and ((fU h).past w.heap.size)) (λ_ _ h=>h.1.1) rfl ?_
 all_goals rw[mX]
 all_goals simp only[Bool.and_eq_true,Bool.and_eq_false_iff,decide_eq_true_eq,decide_eq_false_iff_not,reduceCtorEq,and_false,and_true,or_false,false_or]
 all_goals first|omega|(simp;omega)
theorem abr(w:World)(n:ai)(hn:n.ok w)(at_:Int)(hk:n.ak=9):
 Calls Tryz.prog 79 #[.agg n.cells.toArray,.int .i64 at_] w λe w'=>e= .returned (.bool (cZ n at_))/\Ext w w':=by
 have hm:qg n.ak=some [true,false,true,false,false,false,false]:=by unfold qg;rw[hk];rfl
 obtain⟨a,hbase⟩:=lN hn.ay
 have mX:cZ n at_=cZ n at_:=rfl
 conv at mX=>rhs;unfold cZ
 repeat(first|rw[if_pos aa]at mX|rw[if_neg aa]at mX)
 rw[p_]at mX
 simp only[jX]at mX
 refine fH Tryz.func79 [.agg (jN n),ax at_] ?_
 repeat' ((conv=>whnf)<;>first|(show aI _ 133 ..;refine ko (f:=133) [true,false,true,false,false,false,false] 7 rfl Tryz.call133 (λρ w' hw=>rU w' n.ak [true,false,true,false,false,false,false] hm) (λm am hml jU hmn=> ?_))|refine Jt ?_|(refine Ht ?_;intro h ah mh hah hhn)|refine bn ?_)
 refine Wp.rounds 8 ?_
 repeat' ((conv=>whnf)<;>first|refine Nb ?_|refine M4 ?_|refine Gv ?_|(show fT ..;(first|(refine bI (j:=0) (n.a≠0) (λR w' h=>aG mh hah gK) (show 0<7 by decide) rfl ?_ ?_<;>intro _)|refine bH (j:=0) (λR w' h=>aG hml jU gJ) (show 0<7 by decide) ?_|(refine bI (j:=1) (n.b≠0) (λR w' h=>aG mh hah gK) (show 1<7 by decide) rfl ?_ ?_<;>intro _)|refine bH (j:=1) (λR w' h=>aG hml jU gJ) (show 1<7 by decide) ?_|(refine bI (j:=2) ((n.ay.xs.length:Int)>0) (λR w' h=>aG mh hah gK) (show 2<7 by decide) rfl ?_ ?_<;>intro _)|refine bH (j:=2) (λR w' h=>aG hml jU gJ) (show 2<7 by decide) ?_|(refine bI (j:=3) (n.lo≠0\/n.hi≠0) (λR w' h=>aG mh hah gK) (show 3<7 by decide) rfl ?_ ?_<;>intro _)|refine bH (j:=3) (λR w' h=>aG hml jU gJ) (show 3<7 by decide) ?_|(refine bI (j:=4) (n.size≠0) (λR w' h=>aG mh hah gK) (show 4<7 by decide) rfl ?_ ?_<;>intro _)|refine bH (j:=4) (λR w' h=>aG hml jU gJ) (show 4<7 by decide) ?_|(refine bI (j:=5) ((n.data.xs.length:Int)>0) (λR w' h=>aG mh hah gK) (show 5<7 by decide) rfl ?_ ?_<;>intro _)|refine bH (j:=5) (λR w' h=>aG hml jU gJ) (show 5<7 by decide) ?_|(refine bI (j:=6) ((n.aM.xs.length:Int)>0) (λR w' h=>aG mh hah gK) (show 6<7 by decide) rfl ?_ ?_<;>intro _)|refine bH (j:=6) (λR w' h=>aG hml jU gJ) (show 6<7 by decide) ?_|refine bY (j:=0) (λR w' h=>hn.ay.at_ (hbase aa) R w' Hu) aa ?_))|refine bn ?_|refine ag ?_ ?_<;>intro _)
 all_goals(conv=>whnf)
 all_goals refine bf (B:=⟨w,[]⟩) (S:=((aO w).and ((fU m).past w.heap.size)).and ((fU h).past w.heap.size)) (λ_ _ h=>h.1.1) rfl ?_
 all_goals rw[mX]
 all_goals simp only[Bool.and_eq_true,Bool.and_eq_false_iff,decide_eq_true_eq,decide_eq_false_iff_not,reduceCtorEq,and_false,and_true,or_false,false_or]
 all_goals first|omega|(simp;omega)
theorem abt(w:World)(n:ai)(hn:n.ok w)(at_:Int)(hk:n.ak=4):
 Calls Tryz.prog 79 #[.agg n.cells.toArray,.int .i64 at_] w λe w'=>e= .returned (.bool (cZ n at_))/\Ext w w':=by
 have hm:qg n.ak=some [true,false,true,false,false,true,true]:=by unfold qg;rw[hk];rfl
 obtain⟨a,hbase⟩:=lN hn.ay
 have mX:cZ n at_=cZ n at_:=rfl
 conv at mX=>rhs;unfold cZ
 repeat(first|rw[if_pos aa]at mX|rw[if_neg aa]at mX)
 rw[p_]at mX
 simp only[jX]at mX
 have hK4:n.ay.xs.length=4->iV n.ay.xs=nU 1 n.ay.xs:=λh=>by unfold iV;rw[if_pos h]
 have hK0:n.ay.xs.length≠4->iV n.ay.xs=0:=λh=>by unfold iV;rw[if_neg h]
 refine fH Tryz.func79 [.agg (jN n),ax at_] ?_
 repeat' ((conv=>whnf)<;>first|(refine ain ?_;intro m am hml jU hmn)|refine Jt ?_|(refine Ht ?_;intro h ah mh hah hhn)|refine Gv ?_|(show fT ..;(first|(refine bI (j:=0) (n.a≠0) (λR w' h=>aG mh hah gK) (show 0<7 by decide) rfl ?_ ?_<;>intro _)|refine bH (j:=0) (λR w' h=>aG hml jU gJ) (show 0<7 by decide) ?_|(refine bI (j:=1) (n.b≠0) (λR w' h=>aG mh hah gK) (show 1<7 by decide) rfl ?_ ?_<;>intro _)|refine bH (j:=1) (λR w' h=>aG hml jU gJ) (show 1<7 by decide) ?_|(refine bI (j:=2) ((n.ay.xs.length:Int)>0) (λR w' h=>aG mh hah gK) (show 2<7 by decide) rfl ?_ ?_<;>intro _)|refine bH (j:=2) (λR w' h=>aG hml jU gJ) (show 2<7 by decide) ?_|(refine bI (j:=3) (n.lo≠0\/n.hi≠0) (λR w' h=>aG mh hah gK) (show 3<7 by decide) rfl ?_ ?_<;>intro _)|refine bH (j:=3) (λR w' h=>aG hml jU gJ) (show 3<7 by decide) ?_|(refine bI (j:=4) (n.size≠0) (λR w' h=>aG mh hah gK) (show 4<7 by decide) rfl ?_ ?_<;>intro _)|refine bH (j:=4) (λR w' h=>aG hml jU gJ) (show 4<7 by decide) ?_|(refine bI (j:=5) ((n.data.xs.length:Int)>0) (λR w' h=>aG mh hah gK) (show 5<7 by decide) rfl ?_ ?_<;>intro _)|refine bH (j:=5) (λR w' h=>aG hml jU gJ) (show 5<7 by decide) ?_|(refine bI (j:=6) ((n.aM.xs.length:Int)>0) (λR w' h=>aG mh hah gK) (show 6<7 by decide) rfl ?_ ?_<;>intro _)|refine bH (j:=6) (λR w' h=>aG hml jU gJ) (show 6<7 by decide) ?_|refine bY (j:=0) (λR w' h=>hn.ay.at_ (hbase aa) R w' Hu) aa ?_))|refine bn ?_|refine ag ?_ ?_<;>intro _)
 refine Wp.rounds 8 ?_
 repeat' ((conv=>whnf)<;>first|(refine ain ?_;intro m am hml jU hmn)|refine Jt ?_|(refine Ht ?_;intro h ah mh hah hhn)|refine Gv ?_|(show fT ..;(first|(refine bI (j:=0) (n.a≠0) (λR w' h=>aG mh hah gK) (show 0<7 by decide) rfl ?_ ?_<;>intro _)|refine bH (j:=0) (λR w' h=>aG hml jU gJ) (show 0<7 by decide) ?_|(refine bI (j:=1) (n.b≠0) (λR w' h=>aG mh hah gK) (show 1<7 by decide) rfl ?_ ?_<;>intro _)|refine bH (j:=1) (λR w' h=>aG hml jU gJ) (show 1<7 by decide) ?_|(refine bI (j:=2) ((n.ay.xs.length:Int)>0) (λR w' h=>aG mh hah gK) (show 2<7 by decide) rfl ?_ ?_<;>intro _)|refine bH (j:=2) (λR w' h=>aG hml jU gJ) (show 2<7 by decide) ?_|(refine bI (j:=3) (n.lo≠0\/n.hi≠0) (λR w' h=>aG mh hah gK) (show 3<7 by decide) rfl ?_ ?_<;>intro _)|refine bH (j:=3) (λR w' h=>aG hml jU gJ) (show 3<7 by decide) ?_|(refine bI (j:=4) (n.size≠0) (λR w' h=>aG mh hah gK) (show 4<7 by decide) rfl ?_ ?_<;>intro _)|refine bH (j:=4) (λR w' h=>aG hml jU gJ) (show 4<7 by decide) ?_|(refine bI (j:=5) ((n.data.xs.length:Int)>0) (λR w' h=>aG mh hah gK) (show 5<7 by decide) rfl ?_ ?_<;>intro _)|refine bH (j:=5) (λR w' h=>aG hml jU gJ) (show 5<7 by decide) ?_|(refine bI (j:=6) ((n.aM.xs.length:Int)>0) (λR w' h=>aG mh hah gK) (show 6<7 by decide) rfl ?_ ?_<;>intro _)|refine bH (j:=6) (λR w' h=>aG hml jU gJ) (show 6<7 by decide) ?_|refine bY (j:=0) (λR w' h=>hn.ay.at_ (hbase aa) R w' Hu) aa ?_))|refine bn ?_|refine ag ?_ ?_<;>intro _)
 all_goals first
  |(refine Wp.loop (σ:=Nat×Int) 1 (λ⟨k,p⟩=>[(106,.c n.ay.val),(107,ax n.ay.xs.length),(108,ax k),(8,ax p),(2,.lp 0 0 0 0)]) (λ_=>[(0,.box (jN n) 41)]) (λ_=>((aO w).and ((fU m).past w.heap.size)).and ((fU h).past w.heap.size))
     (λs=>s.1<=4/\1<=s.2/\s.2<=64^s.1/\nU 1 n.ay.xs=nU s.2 (n.ay.xs.drop s.1)) (λs=>4-s.1) (0,1) [] (Nat.le_refl _) (λs=>⟨rfl,rfl⟩) ⟨by simp,by simp,by simp,rfl⟩ ⟨rfl,⟨rfl,rfl,rfl,rfl,rfl,trivial⟩,⟨List.mem_cons_self,trivial⟩,λ_ _ h=>h⟩ ?_
    rintro⟨k,p⟩ ⟨hk4,h1,h64,he⟩
    simp only at hk4 h1 h64 he
    by_cases hlt:k<n.ay.xs.length
    ·rw[drop_at hlt]at he
     simp only[nU]at he
     have hb:1<=n.ay.xs[k]->n.ay.xs[k]<=64->1<=p*n.ay.xs[k]/\p*n.ay.xs[k]<=64^(k+1)/\p*n.ay.xs[k]<=16777216:=λg1 g2=>by
      have g3:p*n.ay.xs[k]<=64^k*64:=Int.mul_le_mul h64 g2 aa aa
      have g4:p*1<=p*n.ay.xs[k]:=Int.mul_le_mul_of_nonneg_left g1 aa
      have g5:(64:Int)^k*64=64^(k+1):=(Int.pow_succ 64 k).symm
      have g6:(64:Int)^(k+1)<=16777216:=by
       have:k=0\/k=1\/k=2\/k=3:=by omega
       rcases this with rfl|rfl|rfl|rfl<;>decide
      omega
     have hbad:(n.ay.xs[k]<1\/n.ay.xs[k]>64)->iV n.ay.xs=0:=λg=>by rw[hK4 aa,he,if_pos g]
     repeat' ((conv=>whnf)<;>first|refine aH a k (hbase aa) rfl hlt ?_|(show fT ..;refine bA (λR w' h=>hn.ay.at_ (hbase aa) R w' h.1.1) _ _ (eH hlt) rfl ?_)|refine wrap_i64 RH RH ?_|refine bn ?_|refine ag ?_ ?_<;>intro _)
     ·conv=>whnf
      refine bf (B:=⟨w,[]⟩) (S:=((aO w).and ((fU m).past w.heap.size)).and ((fU h).past w.heap.size)) (λ_ _ h=>h.1.1) rfl ?_
      rw[mX]
      simp only[Bool.and_eq_true,Bool.and_eq_false_iff,decide_eq_true_eq,decide_eq_false_iff_not,reduceCtorEq,and_false,and_true,or_false,false_or]
      omega
     ·conv=>whnf
      refine bf (B:=⟨w,[]⟩) (S:=((aO w).and ((fU m).past w.heap.size)).and ((fU h).past w.heap.size)) (λ_ _ h=>h.1.1) rfl ?_
      rw[mX]
      simp only[Bool.and_eq_true,Bool.and_eq_false_iff,decide_eq_true_eq,decide_eq_false_iff_not,reduceCtorEq,and_false,and_true,or_false,false_or]
      omega
     ·rw[if_neg aa]at he
      have:=hb aa aa
      exact⟨(k+1,p*n.ay.xs[k]),[],⟨by simp only;omega,this.1,this.2.1,he⟩,by simp only;omega,rfl,bM,⟨List.mem_cons_self,trivial⟩,λ_ _ h=>h⟩
    ·have hkl:n.ay.xs.drop k=[]:=List.drop_of_length_le aa
     rw[hkl]at he
     have hp:iV n.ay.xs=p:=by rw[hK4 aa,he];rfl
     repeat' ((conv=>whnf)<;>first|refine Gv ?_|(show fT ..;refine bY (j:=0) (λR w' h=>hn.ay.at_ (hbase aa) R w' h.1.1) aa ?_)|refine bn ?_|refine ag ?_ ?_<;>intro _)
     all_goals(conv=>whnf)
     all_goals refine bf (B:=⟨w,[]⟩) (S:=((aO w).and ((fU m).past w.heap.size)).and ((fU h).past w.heap.size)) (λ_ _ h=>h.1.1) rfl ?_
     all_goals rw[mX]
     all_goals simp only[Bool.and_eq_true,Bool.and_eq_false_iff,decide_eq_true_eq,decide_eq_false_iff_not,reduceCtorEq,and_false,and_true,or_false,false_or]
     all_goals omega)
  |(conv=>whnf
    refine bf (B:=⟨w,[]⟩) (S:=((aO w).and ((fU m).past w.heap.size)).and ((fU h).past w.heap.size)) (λ_ _ h=>h.1.1) rfl ?_
    rw[mX]
    simp only[Bool.and_eq_true,Bool.and_eq_false_iff,decide_eq_true_eq,decide_eq_false_iff_not,reduceCtorEq,and_false,and_true,or_false,false_or]
    first|omega|(simp;omega))
theorem Q6(w:World)(n:ai)(at_:Int)(hm:qg n.ak=none):
 Calls Tryz.prog 79 #[.agg n.cells.toArray,.int .i64 at_] w λe w'=>e= .returned (.bool (cZ n at_))/\Ext w w':=by
 have mX:cZ n at_=false:=by
  unfold qg at hm
  unfold cZ
  have h1:n.ak≠1:=λh=>by rw[if_pos h]at hm;cases hm
  rw[if_neg h1]at hm
  have h2:n.ak≠2:=λh=>by rw[if_pos h]at hm;cases hm
  rw[if_neg h2]at hm
  have h3:n.ak≠3:=λh=>by rw[if_pos h]at hm;cases hm
  rw[if_neg h3]at hm
  have h4:n.ak≠4:=λh=>by rw[if_pos h]at hm;cases hm
  rw[if_neg h4]at hm
  have h5:n.ak≠5:=λh=>by rw[if_pos h]at hm;cases hm
  rw[if_neg h5]at hm
  have h6:n.ak≠6:=λh=>by rw[if_pos h]at hm;cases hm
  rw[if_neg h6]at hm
  have h7:n.ak≠7:=λh=>by rw[if_pos h]at hm;cases hm
  rw[if_neg h7]at hm
  have h8:n.ak≠8:=λh=>by rw[if_pos h]at hm;cases hm
  rw[if_neg h8]at hm
  have h9:n.ak≠9:=λh=>by rw[if_pos h]at hm;cases hm
  rw[if_neg h1,if_neg h2,if_neg h3,if_neg h4,if_neg h5,if_neg h6,if_neg h7,if_neg h8,if_neg h9]
 refine fH Tryz.func79 [.agg (jN n),ax at_] ?_
 repeat' ((conv=>whnf)<;>first|(show aI _ 133 ..;refine aQ (f:=133) Tryz.call133 _ (λρ w' hw=>afj w' n.ak hm) ?_)|(show lY ..;refine BI (ti 165 rfl) rfl ?_)|refine bn ?_)
 exact bf (λ_ _ h=>h) rfl mX
theorem Vp(w:World)(n:ai)(hn:n.ok w)(at_:Int):
 Calls Tryz.prog 79 #[.agg n.cells.toArray,.int .i64 at_] w λe w'=>e= .returned (.bool (cZ n at_))/\Ext w w':=by
 by_cases h1:n.ak=1
 ·exact abu w n hn at_ h1
 by_cases h2:n.ak=2
 ·exact ab2 w n hn at_ h2
 by_cases h3:n.ak=3
 ·exact abw w n hn at_ h3
 by_cases h4:n.ak=4
 ·exact abt w n hn at_ h4
 by_cases h5:n.ak=5
 ·exact aa7 w n hn at_ h5
 by_cases h6:n.ak=6
 ·exact abq w n hn at_ h6
 by_cases h7:n.ak=7
 ·exact aas w n hn at_ h7
 by_cases h8:n.ak=8
 ·exact aaJ w n hn at_ h8
 by_cases h9:n.ak=9
 ·exact abr w n hn at_ h9
 ·exact Q6 w n at_ (by unfold qg;simp only[h1,h2,h3,h4,h5,h6,h7,h8,h9,if_false])
end Go.Proofs.YtgndjjdeopfdkaaGreat
