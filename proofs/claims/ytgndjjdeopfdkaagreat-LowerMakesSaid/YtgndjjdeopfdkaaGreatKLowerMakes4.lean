import Derived.Test.YtgndjjdeopfdkaaGreatProg
import Derived.Test.YtgndjjdeopfdkaaGreatKLowerMakes3
/- texts GA GN of the proof of LowerMakesSaid -/
set_option maxHeartbeats 16000000
set_option maxRecDepth 20000
namespace Go.Proofs.YtgndjjdeopfdkaaGreat
open Go.SX
def tab:List (Nat×TI):=
 [(2,⟨1,false,6,0,8,.i64,[],true,[.int .i64 0]⟩),
  (3,⟨1,false,6,0,8,.i64,[],true,[.int .i64 0]⟩),
  (4,⟨1,false,5,0,1,.i64,[],true,[.bool false]⟩),
  (5,⟨1,false,6,0,1,.u8,[],true,[.int .u8 0]⟩),
  (9,⟨1,false,4,0,16,.i64,[],true,[.string .empty]⟩),
  (20,⟨1,false,9,0,16,.i64,[],true,[.nilIface]⟩),
  (22,⟨1,false,1,41,24,.i64,[],true,[.slice none 0 0]⟩),
  (24,⟨2,true,3,0,32,.i64,[(0,1,0),(1,1,0)],true,[.slice none 0 0,.int .i64 0]⟩),
  (26,⟨5,true,3,0,24,.i64,[(0,1,0),(1,1,0),(2,1,0),(3,1,0),(4,1,0)],true,[.int .i64 0,.bool false,.bool false,.bool false,.int .i64 0]⟩),
  (29,⟨1,false,1,92,24,.i64,[],true,[.slice none 0 0]⟩),
  (30,⟨1,false,1,32,24,.i64,[],true,[.slice none 0 0]⟩),
  (31,⟨1,false,1,43,24,.i64,[],true,[.slice none 0 0]⟩),
  (32,⟨1,false,1,3,24,.i64,[],true,[.slice none 0 0]⟩),
  (34,⟨6,true,3,0,112,.i64,[(0,1,0),(1,1,0),(2,1,0),(3,1,0),(4,1,0),(5,1,0)],true,[.int .i64 0,.slice none 0 0,.slice none 0 0,.slice none 0 0,.int .i64 0,.slice none 0 0]⟩),
  (35,⟨1,false,6,0,8,.i64,[],true,[.int .i64 0]⟩),
  (41,⟨9,true,3,0,120,.i64,[(0,1,0),(1,1,0),(2,1,0),(3,1,0),(4,1,0),(5,1,0),(6,1,0),(7,1,0),(8,1,0)],true,[.int .i64 0,.int .i64 0,.int .i64 0,.slice none 0 0,.int .i64 0,.int .i64 0,.int .i64 0,.slice none 0 0,.slice none 0 0]⟩),
  (43,⟨5,true,3,0,40,.i64,[(0,1,0),(1,1,0),(2,1,0),(3,1,0),(4,1,0)],true,[.int .i64 0,.int .i64 0,.int .i64 0,.int .i64 0,.int .i64 0]⟩),
  (45,⟨1,false,1,5,24,.i64,[],true,[.slice none 0 0]⟩),
  (47,⟨1,false,7,49,8,.i64,[],true,[.pointer none]⟩),
  (49,⟨2,true,3,0,32,.i64,[(0,1,0),(1,1,0)],true,[.slice none 0 0,.int .i64 0]⟩),
  (54,⟨1,false,1,58,24,.i64,[],true,[.slice none 0 0]⟩),
  (58,⟨2,true,3,0,16,.i64,[(0,1,0),(1,1,0)],true,[.int .i64 0,.int .i64 0]⟩),
  (59,⟨1,false,6,0,8,.u64,[],true,[.int .u64 0]⟩),
  (69,⟨1,false,7,71,8,.i64,[],true,[.pointer none]⟩),
  (71,⟨10,true,3,0,192,.i64,[(0,6,1),(6,1,0),(7,1,0),(8,1,0),(9,1,0)],true,[.int .i64 0,.slice none 0 0,.slice none 0 0,.slice none 0 0,.int .i64 0,.slice none 0 0,.bool false,.slice none 0 0,.slice none 0 0,.slice none 0 0]⟩),
  (74,⟨1,false,0,0,8,.i64,[],true,[.nilFunc]⟩),
  (77,⟨1,false,7,79,8,.i64,[],true,[.pointer none]⟩),
  (79,⟨7,true,3,0,120,.i64,[(0,6,1),(6,1,0)],true,[.int .i64 0,.slice none 0 0,.slice none 0 0,.slice none 0 0,.int .i64 0,.slice none 0 0,.bool false]⟩),
  (84,⟨1,false,0,0,8,.i64,[],true,[.nilFunc]⟩),
  (89,⟨1,false,1,59,24,.i64,[],true,[.slice none 0 0]⟩),
  (92,⟨3,true,3,0,40,.i64,[(0,1,0),(1,1,0),(2,1,0)],true,[.int .i64 0,.int .i64 0,.slice none 0 0]⟩),
  (93,⟨1,false,7,96,8,.i64,[],true,[.pointer none]⟩),
  (94,⟨1,false,1,89,24,.i64,[],true,[.slice none 0 0]⟩),
  (96,⟨9,true,3,0,168,.i64,[(0,6,1),(6,1,0),(7,1,0),(8,1,0)],true,[.int .i64 0,.slice none 0 0,.slice none 0 0,.slice none 0 0,.int .i64 0,.slice none 0 0,.int .u64 0,.slice none 0 0,.slice none 0 0]⟩),
  (97,⟨1,false,0,0,8,.i64,[],true,[.nilFunc]⟩),
  (101,⟨1,false,0,0,8,.i64,[],true,[.nilFunc]⟩),
  (102,⟨1,false,0,0,8,.i64,[],true,[.nilFunc]⟩),
  (104,⟨12,true,3,0,160,.i64,[(0,9,1),(9,1,0),(10,1,0),(11,1,0)],true,[.int .i64 0,.int .i64 0,.int .i64 0,.slice none 0 0,.int .i64 0,.int .i64 0,.int .i64 0,.slice none 0 0,.slice none 0 0,.slice none 0 0,.nilFunc,.int .i64 0]⟩),
  (106,⟨1,false,7,108,8,.i64,[],true,[.pointer none]⟩),
  (108,⟨3,true,3,0,56,.i64,[(0,2,1),(2,1,0)],true,[.slice none 0 0,.int .i64 0,.slice none 0 0]⟩),
  (109,⟨1,false,0,0,8,.i64,[],true,[.nilFunc]⟩),
  (110,⟨1,false,1,109,24,.i64,[],true,[.slice none 0 0]⟩),
  (112,⟨1,false,8,0,8,.i64,[],true,[.map none]⟩),
  (115,⟨11,true,3,0,152,.i64,[(0,9,1),(9,1,0),(10,1,0)],true,[.int .i64 0,.int .i64 0,.int .i64 0,.slice none 0 0,.int .i64 0,.int .i64 0,.int .i64 0,.slice none 0 0,.slice none 0 0,.int .i64 0,.slice none 0 0]⟩),
  (123,⟨1,false,0,0,8,.i64,[],true,[.nilFunc]⟩),
  (127,⟨1,false,7,129,8,.i64,[],true,[.pointer none]⟩),
  (129,⟨3,true,3,0,24,.i64,[(0,1,0),(1,1,0),(2,1,0)],true,[.pointer none,.int .i64 0,.bool false]⟩),
  (137,⟨1,false,0,0,8,.i64,[],true,[.nilFunc]⟩),
  (146,⟨1,false,0,0,8,.i64,[],true,[.nilFunc]⟩),
  (148,⟨1,false,6,0,8,.u64,[],true,[.int .u64 0]⟩),
  (149,⟨1,false,0,0,8,.i64,[],true,[.nilFunc]⟩),
  (150,⟨1,false,1,152,24,.i64,[],true,[.slice none 0 0]⟩),
  (152,⟨2,true,3,0,16,.i64,[(0,1,0),(1,1,0)],true,[.int .i64 0,.int .i64 0]⟩),
  (154,⟨1,false,0,0,8,.i64,[],true,[.nilFunc]⟩),
  (156,⟨1,false,0,0,8,.i64,[],true,[.nilFunc]⟩),
  (158,⟨10,true,3,0,144,.i64,[(0,9,1),(9,1,0)],true,[.int .i64 0,.int .i64 0,.int .i64 0,.slice none 0 0,.int .i64 0,.int .i64 0,.int .i64 0,.slice none 0 0,.slice none 0 0,.slice none 0 0]⟩),
  (159,⟨1,false,0,0,8,.i64,[],true,[.nilFunc]⟩),
  (161,⟨1,false,8,0,8,.i64,[],true,[.map none]⟩),
  (165,⟨1,false,1,4,24,.i64,[],true,[.slice none 0 0]⟩),
  (175,⟨1,false,0,0,8,.i64,[],true,[.nilFunc]⟩),
  (179,⟨3,true,3,0,24,.i64,[(0,1,0),(1,1,0),(2,1,0)],true,[.int .i64 0,.int .i64 0,.int .i64 0]⟩),
  (182,⟨1,false,0,0,8,.i64,[],true,[.nilFunc]⟩),
  (183,⟨1,false,0,0,8,.i64,[],true,[.nilFunc]⟩),
  (189,⟨1,false,9,0,16,.i64,[],true,[.nilIface]⟩),
  (196,⟨1,false,6,0,8,.i64,[],true,[.int .i64 0]⟩),
  (203,⟨1,false,6,0,4,.u32,[],true,[.int .u32 0]⟩),
  (204,⟨1,false,6,0,8,.u64,[],true,[.int .u64 0]⟩),
  (208,⟨1,false,7,3,8,.i64,[],true,[.pointer none]⟩),
  (210,⟨1,false,7,204,8,.i64,[],true,[.pointer none]⟩)]
theorem fA:∀p∈tab,lN Tryz.prog p.1=some p.2:=by
 have h:tab.map (λp=>lN Tryz.prog p.1)=tab.map (λp=>some p.2):=by kernel_rfl
 intro p hp
 obtain⟨i,hi⟩:=List.getElem?_of_mem hp
 have h1:=congrArg (λl=>l[i]?) h
 simp only[List.getElem?_map,hi,Option.map_some,Option.some.injEq]at h1
 exact h1
def eZ:Int->List Int->Int
 |n,[]=>n
 |n,d::r=>if d<1\/d>64/n then 0 else eZ (n*d) r
@[irreducible] def entries (xs:List Int):Int:=if xs.length<1\/3<xs.length then 0 else eZ 1 xs
theorem drop_at{α:Type}{xs:List α}{k:Nat}(h:k<xs.length):xs.drop k=xs[k]::xs.drop (k+1):=List.drop_eq_getElem_cons h
theorem mU(w:World)(sb:Option Addr)(sc:Nat)(xs:List Int)(hx:bf w sb 1 (ints xs)):
 Calls Tryz.prog 61 #[.slice sb xs.length sc] w λe w'=>e= .returned (.int .i64 (entries xs))/\Ext w w':=by
 by_cases hl:xs.length<1\/3<xs.length
 ·have hs:entries xs=0:=by unfold entries;rw[if_pos hl]
  rw[hs]
  refine fq Tryz.func61 [.c (.slice sb xs.length sc)] ?_
  (repeat' ((conv=>whnf)<;>first|refine aN ?_|refine ag ?_ ?_<;>intro _))
  all_goals exact dz λρ w' hw=>⟨rfl,aV hw (λ_ _ h=>h)⟩
 ·have hs:entries xs=eZ 1 xs:=by unfold entries;rw[if_neg hl]
  rw[hs]
  refine fq Tryz.func61 [.c (.slice sb xs.length sc)] ?_
  (repeat' ((conv=>whnf)<;>first|refine aN ?_|refine ag ?_ ?_<;>intro _))
  obtain⟨a,rfl⟩:∃a,sb=some a:=aI (j:=0) hx vD
  refine Wp.loop (σ:=Nat×Int) 0 (λ⟨k,n⟩=>[(14,.c (.slice (some a) xs.length sc)),(15,ak xs.length),(16,ak k),(3,ak n)]) (λ_=>[]) (λ_=>aH w)
   (λs=>s.1<=xs.length/\1<=s.2/\s.2<=64/\eZ 1 xs=eZ s.2 (xs.drop s.1)) (λs=>xs.length-s.1) (0,1) [] (Nat.le_refl _) (λs=>⟨rfl,rfl⟩) ⟨by simp,by simp,by simp,rfl⟩ ⟨rfl,aU,trivial,λ_ _ h=>h⟩ ?_
  rintro⟨k,n⟩ ⟨hk,h1,h64,he⟩
  simp only at hk h1 h64 he
  by_cases hlt:k<xs.length
  ·rw[drop_at hlt]at he
   simp only[eZ]at he
   have hdiv:64/n<=64:=Int.ediv_le_self _ aa
   have hmul:1<=xs[k]->xs[k]<=64/n->1<=n*xs[k]/\n*xs[k]<=64:=λg1 g2=>by
    have g3:xs[k]*n<=64:=Int.le_trans (Int.mul_le_mul_of_nonneg_right g2 aa) (Int.ediv_mul_le _ aa)
    have g4:n*1<=n*xs[k]:=Int.mul_le_mul_of_nonneg_left g1 aa
    rw[Int.mul_comm]at g3
    omega
   (repeat' ((conv=>whnf)<;>first|refine ax a k rfl rfl hlt ?_|refine aW (λR w' h=>au h hx) _ _ (d9 hlt) rfl ?_|refine div_pos rfl aa aa aa ?_|refine wrap_i64 (by have:=hmul aa aa;omega) (by have:=hmul aa aa;omega) ?_|refine aN ?_|refine ag ?_ ?_<;>intro _))
   ·rw[if_pos (.inl aa)]at he
    rw[he]
    exact dz λρ w' hw=>⟨rfl,aV hw (λ_ _ h=>h)⟩
   ·rw[if_pos (.inr aa)]at he
    rw[he]
    exact dz λρ w' hw=>⟨rfl,aV hw (λ_ _ h=>h)⟩
   ·rw[if_neg aa]at he
    have:=hmul aa aa
    exact⟨(k+1,n*xs[k]),[],⟨hlt,this.1,this.2,he⟩,by simp only;omega,rfl,aU,trivial,λ_ _ h=>h⟩
  ·have hkl:xs.drop k=[]:=by simp;omega
   rw[hkl]at he
   rw[he]
   (repeat' ((conv=>whnf)<;>first|refine aN ?_|refine ag ?_ ?_<;>intro _))
   exact dz λρ w' hw=>⟨rfl,aV hw (λ_ _ h=>h)⟩
theorem wC{n d:Int}(h1:1<=n)(hd:1<=d):(d>64/n)↔(n*d>64):=by
 constructor
 ·intro h
  have:64<n*d:=by
   have h2:=Int.lt_mul_of_ediv_lt (by omega:(0:Int)<n) h
   rwa[Int.mul_comm]at h2
  omega
 ·intro h
  have h2:64<d*n:=by rw[Int.mul_comm];omega
  exact Int.ediv_lt_of_lt_mul aa h2
theorem gT(w:World)(sb:Option Addr)(sc:Nat)(xs:List Int)(hx:bf w sb 1 (ints xs)):
 Calls Tryz.prog 42 #[.slice sb xs.length sc] w λe w'=>e= .returned (.int .i64 (entries xs))/\Ext w w':=by
 by_cases hl:xs.length<1\/3<xs.length
 ·have hs:entries xs=0:=by unfold entries;rw[if_pos hl]
  rw[hs]
  refine fq Tryz.func42 [.c (.slice sb xs.length sc)] ?_
  (repeat' ((conv=>whnf)<;>first|refine aN ?_|refine ag ?_ ?_<;>intro _))
  all_goals exact dz λρ w' hw=>⟨rfl,aV hw (λ_ _ h=>h)⟩
 ·have hs:entries xs=eZ 1 xs:=by unfold entries;rw[if_neg hl]
  rw[hs]
  refine fq Tryz.func42 [.c (.slice sb xs.length sc)] ?_
  (repeat' ((conv=>whnf)<;>first|refine aN ?_|refine ag ?_ ?_<;>intro _))
  obtain⟨a,rfl⟩:∃a,sb=some a:=aI (j:=0) hx vD
  refine Wp.loop (σ:=Nat×Int) 0 (λ⟨k,n⟩=>[(14,.c (.slice (some a) xs.length sc)),(15,ak xs.length),(16,ak k),(3,ak n)]) (λ_=>[]) (λ_=>aH w)
   (λs=>s.1<=xs.length/\1<=s.2/\s.2<=64/\eZ 1 xs=eZ s.2 (xs.drop s.1)) (λs=>xs.length-s.1) (0,1) [] (Nat.le_refl _) (λs=>⟨rfl,rfl⟩) ⟨by simp,by simp,by simp,rfl⟩ ⟨rfl,aU,trivial,λ_ _ h=>h⟩ ?_
  rintro⟨k,n⟩ ⟨hk,h1,h64,he⟩
  simp only at hk h1 h64 he
  by_cases hlt:k<xs.length
  ·rw[drop_at hlt]at he
   simp only[eZ]at he
   have hb:1<=xs[k]->xs[k]<=64->1<=n*xs[k]/\n*xs[k]<=4096:=λg1 g2=>by
    have g3:n*xs[k]<=64*64:=Int.mul_le_mul h64 g2 aa aa
    have g4:n*1<=n*xs[k]:=Int.mul_le_mul_of_nonneg_left g1 aa
    omega
   have hq:xs[k]>64->1<=xs[k]->n*xs[k]>64:=λg1 g2=>by
    have g4:1*xs[k]<=n*xs[k]:=Int.mul_le_mul_of_nonneg_right h1 aa
    omega
   (repeat' ((conv=>whnf)<;>first|refine ax a k rfl rfl hlt ?_|refine aW (λR w' h=>au h hx) _ _ (d9 hlt) rfl ?_|refine wrap_i64 ZN ZN ?_|refine aN ?_|refine ag ?_ ?_<;>intro _))
   ·rw[if_pos (.inl aa)]at he
    rw[he]
    exact dz λρ w' hw=>⟨rfl,aV hw (λ_ _ h=>h)⟩
   ·rw[if_pos (.inr ((wC h1 aa).2 (hq aa aa)))]at he
    rw[he]
    exact dz λρ w' hw=>⟨rfl,aV hw (λ_ _ h=>h)⟩
   ·rw[if_pos (.inr ((wC h1 aa).2 aa))]at he
    rw[he]
    exact dz λρ w' hw=>⟨rfl,aV hw (λ_ _ h=>h)⟩
   ·rename_i h5 h6
    have hn:¬(xs[k]<1\/xs[k]>64/n):=by
     rintro(h|h)
     ·omega
     ·have:=(wC h1 aa).1 h;omega
    rw[if_neg hn]at he
    have:=hb aa aa
    exact⟨(k+1,n*xs[k]),[],⟨hlt,this.1,by simp only;omega,he⟩,by simp only;omega,rfl,aU,trivial,λ_ _ h=>h⟩
  ·have hkl:xs.drop k=[]:=by simp;omega
   rw[hkl]at he
   rw[he]
   (repeat' ((conv=>whnf)<;>first|refine aN ?_|refine ag ?_ ?_<;>intro _))
   exact dz λρ w' hw=>⟨rfl,aV hw (λ_ _ h=>h)⟩
section
variable {B:Base} {H:Heap} {S:bJ} {nx k:Nat} {w:World} {xs:List (List Value)}
theorem ti(t:Nat){i:TI}(h:tab.find? (λp=>Nat.beq p.1 t)=some (t,i)):lN Tryz.prog t=some i:=fA (t,i) (List.mem_of_find?_eq_some h)
theorem mixed:Tryz.prog.follows .mixedOrders=true:=by kernel_rfl
theorem bW{v:SV}{val:Value}(hb:∀R w',S.holds R w'->(aH B.w0).holds R w')(hv:∀ρ,v.rf ρ=val)(hw0:B.w0=w):jE B v H S nx (λe w'=>e= .returned val/\Ext w w'):=by
 subst hw0
 exact dz λρ w' hw=>⟨by rw[hv],aV hw hb⟩
theorem mD{a:Addr}{m:Nat}{K:List (List Value)->Prop}(hm:xs.length=m)(hS:∀R w,S.holds R w->bf w (some a) k xs)(hx:∀r∈xs,r.length=k/\∀v∈r,v.oneCell'=true)(h:K xs):tV a m k S K:=by
 rw[F8]
 refine⟨xs,hm,hx,λR w hw i r hi j v hj=> ?_,h⟩
 rcases hS R w hw with h0|⟨a',ha,h1⟩
 ·subst h0;simp at hi
 ·obtain rfl:a=a':=by simpa using ha
  exact h1 i r hi j v hj
theorem wY{i n:Nat}{T:TypeId}(hb:∀R w',S.holds R w'->(aH B.w0).holds R w')(hw0:B.w0=w)(he:(i,bU.rows xs k T)∈H)(hn:n=xs.length):
 jE B (.os i n) H S nx (λe w'=>∃v,e= .returned v/\Ext w w'/\j_ w w' v k T xs):=by
 subst hw0 hn
 exact dz λρ w' hw=>⟨_,rfl,aV hw hb,dF hw hb he⟩
theorem aX{b:Bool}{c:Bool}(hb:∀R w',S.holds R w'->(aH B.w0).holds R w')(hw0:B.w0=w)(h:c=b):jE B (.c (.bool b)) H S nx (λe w'=>e= .returned (.bool c)/\Ext w w'):=
 bW hb (λ_=>by rw[h];rfl) hw0
structure aj where
 base:Option Addr
 cap:Nat
 xs:List Int
def aj.val(v:aj):Value:= .slice v.base v.xs.length v.cap
structure aj.ok(w:World)(v:aj):Prop where
 rows:bf w v.base 1 (ints v.xs)
 fits:∀x∈v.xs,-9223372036854775808<=x/\x<=9223372036854775807
 room:v.xs.length<=v.cap
 few:v.xs.length<=1000000
theorem aj.ok.base{v:aj}(h:v.ok w)(hl:0<v.xs.length):∃a,v.base=some a:=aI (j:=0) h.rows (by rw[aF];exact hl)
theorem NE{xs ys:List Int}(hx:k<xs.length)(hy:k<ys.length)(h:xs.take k=ys.take k)(he:xs[k]=ys[k]):xs.take (k+1)=ys.take (k+1):=by
 rw[List.take_succ_eq_append_getElem hx,List.take_succ_eq_append_getElem hy,h,he]
theorem qg(w:World)(x y:aj)(hx:x.ok w)(hy:y.ok w):
 Calls Tryz.prog 20 #[x.val,y.val] w λe w'=>e= .returned (.bool (decide (x.xs=y.xs)))/\Ext w w':=by
 obtain⟨ab,ac,xs⟩:=x
 obtain⟨bb,bc,ys⟩:=y
 obtain⟨hx,_,_,nX⟩:=hx
 obtain⟨hy,_,_,_⟩:=hy
 simp only[aj.val]at*
 refine fq Tryz.func20 [.c (.slice ab xs.length ac),.c (.slice bb ys.length bc)] ?_
 (repeat' ((conv=>whnf)<;>first|refine aZ ?_|refine ag ?_ ?_<;>intro _))
 ·exact aX (λ_ _ h=>h) rfl (decide_eq_false (λh=>by subst h;omega))
 rename_i hne
 refine Wp.loop (σ:=Nat) 0 (λk=>[(0,.c (.slice ab xs.length ac)),(1,.c (.slice bb ys.length bc)),(12,ak xs.length),(13,ak k)]) (λ_=>[]) (λ_=>aH w)
  (λk=>k<=xs.length/\xs.take k=ys.take k) (λk=>xs.length-k) 0 [] (Nat.le_refl _) (λs=>⟨rfl,rfl⟩) ⟨by simp,by simp⟩ ⟨rfl,aU,trivial,λ_ _ h=>h⟩ ?_
 rintro k ⟨hk,he⟩
 by_cases hlt:k<xs.length
 ·have hlt2:k<ys.length:=by omega
  obtain⟨a,rfl⟩:∃a,ab=some a:=aI (j:=k) hx vD
  obtain⟨b,rfl⟩:∃a,bb=some a:=aI (j:=k) hy vD
  (repeat' ((conv=>whnf)<;>first|refine xX fA mixed jf ?_|refine ax a k rfl rfl hlt ?_|refine ax b k rfl rfl hlt2 ?_|refine aW (λR w' h=>au h hx) _ _ (d9 hlt) rfl ?_|refine aW (λR w' h=>au h hy) _ _ (d9 hlt2) rfl ?_|refine aZ ?_|refine ag ?_ ?_<;>intro _))
  ·exact aX (λ_ _ h=>h) rfl (decide_eq_false (λh=>by subst h;omega))
  ·rename_i h5
   exact⟨k+1,[],⟨hlt,NE hlt hlt2 he aa⟩,by omega,rfl,aU,trivial,λ_ _ h=>h⟩
 ·have hxy:xs=ys:=by rw[List.take_of_length_le aa,List.take_of_length_le aa]at he;exact he
  (repeat' ((conv=>whnf)<;>first|refine aZ ?_|refine ag ?_ ?_<;>intro _))
  exact aX (λ_ _ h=>h) rfl (decide_eq_true hxy)
theorem qY(w:World)(x y:aj)(hx:x.ok w)(hy:y.ok w):
 Calls Tryz.prog 62 #[x.val,y.val] w λe w'=>e= .returned (.bool (decide (x.xs=y.xs)))/\Ext w w':=by
 obtain⟨ab,ac,xs⟩:=x
 obtain⟨bb,bc,ys⟩:=y
 obtain⟨hx,_,_,nX⟩:=hx
 obtain⟨hy,_,_,_⟩:=hy
 simp only[aj.val]at*
 refine fq Tryz.func62 [.c (.slice ab xs.length ac),.c (.slice bb ys.length bc)] ?_
 (repeat' ((conv=>whnf)<;>first|refine aZ ?_|refine ag ?_ ?_<;>intro _))
 ·exact aX (λ_ _ h=>h) rfl (decide_eq_false (λh=>by subst h;omega))
 rename_i hne
 refine Wp.loop (σ:=Nat) 0 (λk=>[(0,.c (.slice ab xs.length ac)),(1,.c (.slice bb ys.length bc)),(12,ak xs.length),(13,ak k)]) (λ_=>[]) (λ_=>aH w)
  (λk=>k<=xs.length/\xs.take k=ys.take k) (λk=>xs.length-k) 0 [] (Nat.le_refl _) (λs=>⟨rfl,rfl⟩) ⟨by simp,by simp⟩ ⟨rfl,aU,trivial,λ_ _ h=>h⟩ ?_
 rintro k ⟨hk,he⟩
 by_cases hlt:k<xs.length
 ·have hlt2:k<ys.length:=by omega
  obtain⟨a,rfl⟩:∃a,ab=some a:=aI (j:=k) hx vD
  obtain⟨b,rfl⟩:∃a,bb=some a:=aI (j:=k) hy vD
  (repeat' ((conv=>whnf)<;>first|refine xX fA mixed jf ?_|refine ax a k rfl rfl hlt ?_|refine ax b k rfl rfl hlt2 ?_|refine aW (λR w' h=>au h hx) _ _ (d9 hlt) rfl ?_|refine aW (λR w' h=>au h hy) _ _ (d9 hlt2) rfl ?_|refine aZ ?_|refine ag ?_ ?_<;>intro _))
  ·exact aX (λ_ _ h=>h) rfl (decide_eq_false (λh=>by subst h;omega))
  ·rename_i h5
   exact⟨k+1,[],⟨hlt,NE hlt hlt2 he aa⟩,by omega,rfl,aU,trivial,λ_ _ h=>h⟩
 ·have hxy:xs=ys:=by rw[List.take_of_length_le aa,List.take_of_length_le aa]at he;exact he
  (repeat' ((conv=>whnf)<;>first|refine aZ ?_|refine ag ?_ ?_<;>intro _))
  exact aX (λ_ _ h=>h) rfl (decide_eq_true hxy)
end
def qa(xs:List Int):Bool:=xs.all λv=>decide (-1048576<=v/\v<=1048576)
theorem zM(w:World)(x:aj)(hx:x.ok w):
 Calls Tryz.prog 81 #[x.val] w λe w'=>e= .returned (.bool (qa x.xs))/\Ext w w':=by
 obtain⟨ab,ac,xs⟩:=x
 obtain⟨hx,_,_,nX⟩:=hx
 simp only[aj.val]at*
 refine fq Tryz.func81 [.c (.slice ab xs.length ac)] ?_
 (repeat' ((conv=>whnf)<;>first|refine aN ?_|refine ag ?_ ?_<;>intro _))
 refine Wp.loop (σ:=Nat) 0 (λk=>[(5,.c (.slice ab xs.length ac)),(6,ak xs.length),(7,ak k)]) (λ_=>[]) (λ_=>aH w)
  (λk=>k<=xs.length/\qa xs=qa (xs.drop k)) (λk=>xs.length-k) 0 [] (Nat.le_refl _) (λs=>⟨rfl,rfl⟩) ⟨by simp,by simp⟩ ⟨rfl,aU,trivial,λ_ _ h=>h⟩ ?_
 rintro k ⟨hk,he⟩
 by_cases hlt:k<xs.length
 ·obtain⟨a,rfl⟩:∃a,ab=some a:=aI (j:=k) hx vD
  rw[drop_at hlt]at he
  simp only[qa,List.all_cons]at he
  (repeat' ((conv=>whnf)<;>first|refine ax a k rfl rfl hlt ?_|refine aW (λR w' h=>au h hx) _ _ (d9 hlt) rfl ?_|refine aN ?_|refine ag ?_ ?_<;>intro _))
  ·exact aX (λ_ _ h=>h) rfl ahy
  ·exact aX (λ_ _ h=>h) rfl ahy
  ·rw[decide_eq_true (p:= -1048576<=xs[k]/\xs[k]<=1048576) aa,Bool.true_and]at he
   exact⟨k+1,[],⟨hlt,he⟩,by omega,rfl,aU,trivial,λ_ _ h=>h⟩
 ·rw[List.drop_of_length_le (show xs.length<=k by omega)]at he
  (repeat' ((conv=>whnf)<;>first|refine aN ?_|refine ag ?_ ?_<;>intro _))
  exact aX (λ_ _ h=>h) rfl (by rw[he];rfl)
def foldI(f:Int->Int->Int):List Int->Int
 |[]=>0
 |x::r=>r.foldl f x
theorem J3{f:Int->Int->Int}{xs:List Int}{k:Nat}(h:k<xs.length)(h0:0<k):foldI f (xs.take (k+1))=f (foldI f (xs.take k)) xs[k]:=by
 rw[List.take_succ_eq_append_getElem h]
 obtain⟨x,r,e⟩:∃x r,xs.take k=x::r:=by
  cases hx:xs.take k with
  |nil=>have:=congrArg List.length hx;rw[List.length_take,List.length_nil]at this;omega
  |cons x r=>exact⟨x,r,rfl⟩
 rw[e]
 simp[foldI]
theorem Pm(w:World)(x:aj)(hx:x.ok w)(hl:1<=x.xs.length):
 Calls Tryz.prog 53 #[x.val] w λe w'=>e= .returned (.int .i64 (foldI max x.xs))/\Ext w w':=by
 obtain⟨ab,ac,xs⟩:=x
 obtain⟨hx,_,_,nX⟩:=hx
 simp only[aj.val]at*
 obtain⟨a,rfl⟩:∃a,ab=some a:=aI (j:=0) hx vD
 refine fq Tryz.func53 [.c (.slice (some a) xs.length ac)] ?_
 (repeat' ((conv=>whnf)<;>first|refine ax a 0 rfl rfl hl ?_|refine aW (λR w' h=>au h hx) _ _ (d9 hl) rfl ?_|refine aN ?_|refine ag ?_ ?_<;>intro _))
 refine Wp.loop (σ:=Nat×Int) 0 (λ⟨k,m⟩=>[(0,.c (.slice (some a) xs.length ac)),(3,ak m),(4,ak k)]) (λ_=>[]) (λ_=>aH w)
  (λs=>1<=s.1/\s.1<=xs.length/\s.2=foldI max (xs.take s.1)) (λs=>xs.length-s.1) (1,xs[0]) [] (Nat.le_refl _) (λs=>⟨rfl,rfl⟩) ⟨by simp,hl,by cases xs with|nil=>simp at hl|cons y r=>simp[foldI]⟩ ⟨rfl,aU,trivial,λ_ _ h=>h⟩ ?_
 rintro⟨k,m⟩ ⟨h1,hk,he⟩
 simp only at h1 hk he
 by_cases hlt:k<xs.length
 ·have hs:=J3 (f:=max) hlt h1
  rw[<-he]at hs
  (repeat' ((conv=>whnf)<;>first|refine ax a k rfl rfl hlt ?_|refine aW (λR w' h=>au h hx) _ _ (d9 hlt) rfl ?_|refine aN ?_|refine ag ?_ ?_<;>intro _))
  all_goals exact⟨(k+1,_),[],⟨by simp,hlt,by simp only;omega⟩,by simp only;omega,rfl,aU,trivial,λ_ _ h=>h⟩
 ·rw[List.take_of_length_le aa]at he
  (repeat' ((conv=>whnf)<;>first|refine aN ?_|refine ag ?_ ?_<;>intro _))
  exact bW (λ_ _ h=>h) (λ_=>by rw[<-he];rfl) rfl
theorem Pk(w:World)(x:aj)(hx:x.ok w)(hl:1<=x.xs.length):
 Calls Tryz.prog 52 #[x.val] w λe w'=>e= .returned (.int .i64 (foldI min x.xs))/\Ext w w':=by
 obtain⟨ab,ac,xs⟩:=x
 obtain⟨hx,_,_,nX⟩:=hx
 simp only[aj.val]at*
 obtain⟨a,rfl⟩:∃a,ab=some a:=aI (j:=0) hx vD
 refine fq Tryz.func52 [.c (.slice (some a) xs.length ac)] ?_
 (repeat' ((conv=>whnf)<;>first|refine ax a 0 rfl rfl hl ?_|refine aW (λR w' h=>au h hx) _ _ (d9 hl) rfl ?_|refine aN ?_|refine ag ?_ ?_<;>intro _))
 refine Wp.loop (σ:=Nat×Int) 0 (λ⟨k,m⟩=>[(0,.c (.slice (some a) xs.length ac)),(3,ak m),(4,ak k)]) (λ_=>[]) (λ_=>aH w)
  (λs=>1<=s.1/\s.1<=xs.length/\s.2=foldI min (xs.take s.1)) (λs=>xs.length-s.1) (1,xs[0]) [] (Nat.le_refl _) (λs=>⟨rfl,rfl⟩) ⟨by simp,hl,by cases xs with|nil=>simp at hl|cons y r=>simp[foldI]⟩ ⟨rfl,aU,trivial,λ_ _ h=>h⟩ ?_
 rintro⟨k,m⟩ ⟨h1,hk,he⟩
 simp only at h1 hk he
 by_cases hlt:k<xs.length
 ·have hs:=J3 (f:=min) hlt h1
  rw[<-he]at hs
  (repeat' ((conv=>whnf)<;>first|refine ax a k rfl rfl hlt ?_|refine aW (λR w' h=>au h hx) _ _ (d9 hlt) rfl ?_|refine aN ?_|refine ag ?_ ?_<;>intro _))
  all_goals exact⟨(k+1,_),[],⟨by simp,hlt,by simp only;omega⟩,by simp only;omega,rfl,aU,trivial,λ_ _ h=>h⟩
 ·rw[List.take_of_length_le aa]at he
  (repeat' ((conv=>whnf)<;>first|refine aN ?_|refine ag ?_ ?_<;>intro _))
  exact bW (λ_ _ h=>h) (λ_=>by rw[<-he];rfl) rfl
theorem AL(w:World)(x:aj)(hx:x.ok w)(hs:0<x.xs.length):
 Calls Tryz.prog 32 #[x.val] w λe w'=>∃v,e= .returned v/\Ext w w'/\j_ w w' v 1 3 (ints x.xs):=by
 obtain⟨ab,ac,xs⟩:=x
 obtain⟨a,rfl⟩:∃a,ab=some a:=aI (j:=0) hx.rows (by rw[aF];exact hs)
 obtain⟨hx,_,_,nX⟩:=hx
 simp only[aj.val]at*
 refine fq Tryz.func32 [.c (.slice (some a) xs.length ac)] ?_
 (repeat' ((conv=>whnf)<;>first|refine jP (ti 32 rfl) rfl ?_|refine aN ?_))
 have hil:=aF xs
 (repeat' ((conv=>whnf)<;>first|refine mD (aF xs) (λR w' h=>au h hx) kN ?_|refine aN ?_))
 exact wY (λ_ _ h=>h) rfl (.head _) Yp
section
variable {w w':World} {R:Nat->Prop}
structure ai where
 kind:Int
 a:Int
 b:Int
 shape:aj
 lo:Int
 hi:Int
 size:Int
 data:aj
 aG:aj
def i64(x:Int):Prop:= -9223372036854775808<=x/\x<=9223372036854775807
structure ai.ok(w:World)(n:ai):Prop where
 shape:n.shape.ok w
 data:n.data.ok w
 aG:n.aG.ok w
 jJ:i64 n.kind
 p9:i64 n.a
 nQ:i64 n.b
 kE:i64 n.lo
 kF:i64 n.hi
 jK:i64 n.size
def ai.cells(n:ai):List Value:=[.int .i64 n.kind,.int .i64 n.a,.int .i64 n.b,n.shape.val,.int .i64 n.lo,.int .i64 n.hi,.int .i64 n.size,n.data.val,n.aG.val]
abbrev jM(n:ai):List SV:=[ak n.kind,ak n.a,ak n.b,.c n.shape.val,ak n.lo,ak n.hi,ak n.size,.c n.data.val,.c n.aG.val]
def mH(n:ai)(at_:Int)(sv:Value):Value:= .agg #[.int .i64 n.kind,.int .i64 n.a,.int .i64 n.b,n.shape.val,.int .i64 n.lo,.int .i64 n.hi,.int .i64 n.size,n.data.val,n.aG.val,.int .i64 at_,sv]
@[irreducible] def jT (n:ai) (a b sh sp si da bi:Bool):Bool:=
  (a||decide (n.a=0))&&(b||decide (n.b=0))&&(sh||decide (n.shape.xs.length=0))&&(sp||(decide (n.lo=0)&&decide (n.hi=0)))&&(si||decide (n.size=0))&&(da||decide (n.data.xs.length=0))&&(bi||decide (n.aG.xs.length=0))
def ajv:List (Bool×Bool×Bool×Bool×Bool×Bool×Bool):=[(false,false,true,true,false,false,false),(false,false,true,false,false,true,false),(true,false,false,false,false,true,true),(true,false,true,false,false,true,true),(true,false,false,false,true,false,false),(true,true,false,false,false,false,false),(true,false,false,false,false,true,false),(true,false,true,false,false,false,false)]
theorem NU(w:World)(n:ai)(at_:Int)(sv:Value)(a b sh sp si da bi:Bool)(h:(ajv.contains (a,b,sh,sp,si,da,bi))=true):
 Calls Tryz.prog 114 #[mH n at_ sv,.bool a,.bool b,.bool sh,.bool sp,.bool si,.bool da,.bool bi] w λe w'=>e= .returned (.bool (jT n a b sh sp si da bi))/\Ext w w':=by
 have h':(a,b,sh,sp,si,da,bi)∈ajv:=List.contains_iff_mem.1 h
 clear h
 simp only[ajv,List.mem_cons,Prod.mk.injEq,List.not_mem_nil,or_false]at h'
 rcases h' with h|h|h|h|h|h|h|h
 ·obtain⟨rfl,rfl,rfl,rfl,rfl,rfl,rfl⟩:=h
  refine fq Tryz.func114 [.agg [ak n.kind,ak n.a,ak n.b,.c n.shape.val,ak n.lo,ak n.hi,ak n.size,.c n.data.val,.c n.aG.val,ak at_,.c sv],.c (.bool false),.c (.bool false),.c (.bool true),.c (.bool true),.c (.bool false),.c (.bool false),.c (.bool false)] ?_
  (repeat' ((conv=>whnf)<;>first|refine aN ?_|refine ag ?_ ?_<;>intro _))
  all_goals exact aX (λ_ _ h=>h) rfl RL
 ·obtain⟨rfl,rfl,rfl,rfl,rfl,rfl,rfl⟩:=h
  refine fq Tryz.func114 [.agg [ak n.kind,ak n.a,ak n.b,.c n.shape.val,ak n.lo,ak n.hi,ak n.size,.c n.data.val,.c n.aG.val,ak at_,.c sv],.c (.bool false),.c (.bool false),.c (.bool true),.c (.bool false),.c (.bool false),.c (.bool true),.c (.bool false)] ?_
  (repeat' ((conv=>whnf)<;>first|refine aN ?_|refine ag ?_ ?_<;>intro _))
  all_goals exact aX (λ_ _ h=>h) rfl RL
 ·obtain⟨rfl,rfl,rfl,rfl,rfl,rfl,rfl⟩:=h
  refine fq Tryz.func114 [.agg [ak n.kind,ak n.a,ak n.b,.c n.shape.val,ak n.lo,ak n.hi,ak n.size,.c n.data.val,.c n.aG.val,ak at_,.c sv],.c (.bool true),.c (.bool false),.c (.bool false),.c (.bool false),.c (.bool false),.c (.bool true),.c (.bool true)] ?_
  (repeat' ((conv=>whnf)<;>first|refine aN ?_|refine ag ?_ ?_<;>intro _))
  all_goals exact aX (λ_ _ h=>h) rfl RL
 ·obtain⟨rfl,rfl,rfl,rfl,rfl,rfl,rfl⟩:=h
  refine fq Tryz.func114 [.agg [ak n.kind,ak n.a,ak n.b,.c n.shape.val,ak n.lo,ak n.hi,ak n.size,.c n.data.val,.c n.aG.val,ak at_,.c sv],.c (.bool true),.c (.bool false),.c (.bool true),.c (.bool false),.c (.bool false),.c (.bool true),.c (.bool true)] ?_
  (repeat' ((conv=>whnf)<;>first|refine aN ?_|refine ag ?_ ?_<;>intro _))
  all_goals exact aX (λ_ _ h=>h) rfl RL
 ·obtain⟨rfl,rfl,rfl,rfl,rfl,rfl,rfl⟩:=h
  refine fq Tryz.func114 [.agg [ak n.kind,ak n.a,ak n.b,.c n.shape.val,ak n.lo,ak n.hi,ak n.size,.c n.data.val,.c n.aG.val,ak at_,.c sv],.c (.bool true),.c (.bool false),.c (.bool false),.c (.bool false),.c (.bool true),.c (.bool false),.c (.bool false)] ?_
  (repeat' ((conv=>whnf)<;>first|refine aN ?_|refine ag ?_ ?_<;>intro _))
  all_goals exact aX (λ_ _ h=>h) rfl RL
 ·obtain⟨rfl,rfl,rfl,rfl,rfl,rfl,rfl⟩:=h
  refine fq Tryz.func114 [.agg [ak n.kind,ak n.a,ak n.b,.c n.shape.val,ak n.lo,ak n.hi,ak n.size,.c n.data.val,.c n.aG.val,ak at_,.c sv],.c (.bool true),.c (.bool true),.c (.bool false),.c (.bool false),.c (.bool false),.c (.bool false),.c (.bool false)] ?_
  (repeat' ((conv=>whnf)<;>first|refine aN ?_|refine ag ?_ ?_<;>intro _))
  all_goals exact aX (λ_ _ h=>h) rfl RL
 ·obtain⟨rfl,rfl,rfl,rfl,rfl,rfl,rfl⟩:=h
  refine fq Tryz.func114 [.agg [ak n.kind,ak n.a,ak n.b,.c n.shape.val,ak n.lo,ak n.hi,ak n.size,.c n.data.val,.c n.aG.val,ak at_,.c sv],.c (.bool true),.c (.bool false),.c (.bool false),.c (.bool false),.c (.bool false),.c (.bool true),.c (.bool false)] ?_
  (repeat' ((conv=>whnf)<;>first|refine aN ?_|refine ag ?_ ?_<;>intro _))
  all_goals exact aX (λ_ _ h=>h) rfl RL
 ·obtain⟨rfl,rfl,rfl,rfl,rfl,rfl,rfl⟩:=h
  refine fq Tryz.func114 [.agg [ak n.kind,ak n.a,ak n.b,.c n.shape.val,ak n.lo,ak n.hi,ak n.size,.c n.data.val,.c n.aG.val,ak at_,.c sv],.c (.bool true),.c (.bool false),.c (.bool true),.c (.bool false),.c (.bool false),.c (.bool false),.c (.bool false)] ?_
  (repeat' ((conv=>whnf)<;>first|refine aN ?_|refine ag ?_ ?_<;>intro _))
  all_goals exact aX (λ_ _ h=>h) rfl RL
def jW(k at_:Int):Bool:=decide (0<=k/\k<at_)
theorem NV(w:World)(n:ai)(at_:Int)(sv:Value)(k:Int):
 Calls Tryz.prog 115 #[mH n at_ sv,.int .i64 k] w λe w'=>e= .returned (.bool (jW k at_))/\Ext w w':=by
 refine fq Tryz.func115 [.agg [ak n.kind,ak n.a,ak n.b,.c n.shape.val,ak n.lo,ak n.hi,ak n.size,.c n.data.val,.c n.aG.val,ak at_,.c sv],ak k] ?_
 (repeat' ((conv=>whnf)<;>first|refine aN ?_|refine ag ?_ ?_<;>intro _))
 all_goals refine aX (λ_ _ h=>h) rfl ?_
 ·exact decide_eq_true aa
 ·exact decide_eq_false aa
 ·exact decide_eq_false aa
def nI:Int->List Int->Int
 |n,[]=>n
 |n,d::r=>if d<1\/d>64 then 0 else nI (n*d) r
@[irreducible] def iO (xs:List Int):Int:=if xs.length=4 then nI 1 xs else 0
theorem V5(w:World)(n:ai)(hn:n.shape.ok w)(at_:Int)(sv:Value):
 Calls Tryz.prog 116 #[mH n at_ sv] w λe w'=>e= .returned (.int .i64 (iO n.shape.xs))/\Ext w w':=by
 by_cases h4:n.shape.xs.length=4
 ·have hs:iO n.shape.xs=nI 1 n.shape.xs:=by unfold iO;rw[if_pos h4]
  rw[hs]
  obtain⟨a,ha⟩:=hn.base aa
  refine fq Tryz.func116 [.agg [ak n.kind,ak n.a,ak n.b,.c n.shape.val,ak n.lo,ak n.hi,ak n.size,.c n.data.val,.c n.aG.val,ak at_,.c sv]] ?_
  (repeat' ((conv=>whnf)<;>first|refine aN ?_|refine ag ?_ ?_<;>intro _))
  refine Wp.loop (σ:=Nat×Int) 1 (λ⟨k,m⟩=>[(13,.c n.shape.val),(14,ak n.shape.xs.length),(15,ak k),(3,ak m)]) (λ_=>[]) (λ_=>aH w)
   (λs=>s.1<=4/\1<=s.2/\s.2<=64^s.1/\nI 1 n.shape.xs=nI s.2 (n.shape.xs.drop s.1)) (λs=>4-s.1) (0,1) [] aa (λs=>⟨rfl,rfl⟩) ⟨by simp,by simp,by simp,rfl⟩ ⟨rfl,aU,trivial,λ_ _ h=>h⟩ ?_
  rintro⟨k,m⟩ ⟨hk,h1,h64,he⟩
  simp only at hk h1 h64 he
  by_cases hlt:k<n.shape.xs.length
  ·rw[drop_at hlt]at he
   simp only[nI]at he
   have hb:1<=n.shape.xs[k]->n.shape.xs[k]<=64->1<=m*n.shape.xs[k]/\m*n.shape.xs[k]<=64^(k+1)/\m*n.shape.xs[k]<=16777216:=λg1 g2=>by
    have g3:m*n.shape.xs[k]<=64^k*64:=Int.mul_le_mul h64 g2 aa aa
    have g4:m*1<=m*n.shape.xs[k]:=Int.mul_le_mul_of_nonneg_left g1 aa
    have g5:(64:Int)^k*64=64^(k+1):=(Int.pow_succ 64 k).symm
    have g6:(64:Int)^(k+1)<=16777216:=by
     have:k=0\/k=1\/k=2\/k=3:=by omega
     rcases this with rfl|rfl|rfl|rfl<;>decide
    omega
   (repeat' ((conv=>whnf)<;>first|refine ax a k ha rfl hlt ?_|refine aW (λR w' h=>by rw[<-ha];exact au h hn.rows) _ _ (d9 hlt) rfl ?_|refine wrap_i64 ZN ZN ?_|refine aN ?_|refine ag ?_ ?_<;>intro _))
   ·rw[if_pos (.inl aa)]at he
    rw[he]
    exact bW (λ_ _ h=>h) (λ_=>rfl) rfl
   ·rw[if_pos (.inr aa)]at he
    rw[he]
    exact bW (λ_ _ h=>h) (λ_=>rfl) rfl
   ·rw[if_neg aa]at he
    have:=hb aa aa
    exact⟨(k+1,m*n.shape.xs[k]),[],⟨by simp only;omega,this.1,this.2.1,he⟩,by simp only;omega,rfl,aU,trivial,λ_ _ h=>h⟩
  ·have hkl:n.shape.xs.drop k=[]:=List.drop_of_length_le aa
   rw[hkl]at he
   rw[he]
   (repeat' ((conv=>whnf)<;>first|refine aN ?_|refine ag ?_ ?_<;>intro _))
   exact bW (λ_ _ h=>h) (λ_=>rfl) rfl
 ·have hs:iO n.shape.xs=0:=by unfold iO;rw[if_neg h4]
  rw[hs]
  refine fq Tryz.func116 [.agg [ak n.kind,ak n.a,ak n.b,.c n.shape.val,ak n.lo,ak n.hi,ak n.size,.c n.data.val,.c n.aG.val,ak at_,.c sv]] ?_
  (repeat' ((conv=>whnf)<;>first|refine aN ?_|refine ag ?_ ?_<;>intro _))
  exact bW (λ_ _ h=>h) (λ_=>rfl) rfl
structure aY where
 base:Option Addr
 cap:Nat
 l:List aj
def aM(l:List aj):List (List Value):=l.map λs=>[s.val]
def aY.val(v:aY):Value:= .slice v.base v.l.length v.cap
structure aY.ok(w:World)(v:aY):Prop where
 rows:bf w v.base 1 (aM v.l)
 each:∀s∈v.l,s.ok w
 few:v.l.length<=24
theorem dh{l:List aj}{k:Nat}(h:k<l.length):(aM l)[k]? =some [l[k].val]:=by simp[aM,h]
theorem aR(l:List aj):(aM l).length=l.length:=by simp[aM]
theorem Et(w:World)(n:ai)(at_:Int)(sv:aY)(hs:sv.ok w)(i:Nat)(s:aj)(hi:sv.l[i]? =some s)(ha:n.a=i):
 Calls Tryz.prog 148 #[mH n at_ sv.val] w λe w'=>e= .returned s.val/\Ext w w':=by
 obtain⟨hil,rfl⟩:=List.getElem?_eq_some_iff.1 hi
 obtain⟨a,hb⟩:∃a,sv.base=some a:=aI (j:=i) hs.rows acN
 refine fq Tryz.func148 [.agg [ak n.kind,ak n.a,ak n.b,.c n.shape.val,ak n.lo,ak n.hi,ak n.size,.c n.data.val,.c n.aG.val,ak at_,.c sv.val]] ?_
 (repeat' ((conv=>whnf)<;>first|(show bC ..;refine ax a i hb ha hil ?_)|(show fu ..;(refine aW (λR w' h=>by rw[<-hb];exact au h hs.rows) _ _ (dh hil) rfl ?_))|refine aN ?_))
 exact bW (λ_ _ h=>h) (λ_=>rfl) rfl
theorem aj.ok.later{v:aj}(h:v.ok w)(hb:(aH w).holds R w'):v.ok w':=⟨au hb h.rows,h.fits,h.room,h.few⟩
theorem ai.ok.later{n:ai}(h:n.ok w)(hb:(aH w).holds R w'):n.ok w':=
 ⟨h.shape.later hb,h.data.later hb,h.aG.later hb,h.jJ,h.p9,h.nQ,h.kE,h.kF,h.jK⟩
theorem aY.ok.later{v:aY}(h:v.ok w)(hb:(aH w).holds R w'):v.ok w':=⟨au hb h.rows,λs hs=>(h.each s hs).later hb,h.few⟩
end
theorem lm{w:World}{v:aj}(h:v.ok w):∃a,0<v.xs.length->v.base=some a:=by
 by_cases hl:0<v.xs.length
 ·obtain⟨a,ha⟩:=h.base hl;exact⟨a,λ_=>ha⟩
 ·exact⟨⟨0,0,none⟩,λh=>absurd h hl⟩
theorem Z0{xs:List Int}{k:Nat}(h:k<xs.length):(ints xs)[k]? =some [.int .i64 (xs.getD k 0)]:=by rw[d9 h];simp[List.getD,h]
theorem J4{xs:List Int}(h:iO xs>0):xs.length=4:=by
 unfold iO at h
 by_cases h4:xs.length=4
 ·exact h4
 ·rw[if_neg h4]at h;omega
def bY(n:ai)(at_:Int):Bool:=
 if n.kind=1 then jT n false false true true false false false&&decide (entries n.shape.xs>0)
 else if n.kind=2 then jT n false false true false false true false&&decide (entries n.shape.xs>0)&&decide ((n.data.xs.length:Int)=entries n.shape.xs)
 else if n.kind=3 then jT n true false false false false true true&&jW n.a at_&&decide (n.aG.xs.length>0)&&decide (n.aG.xs.length<=64)
 else if n.kind=4 then jT n true false true false false true true&&jW n.a at_&&decide (iO n.shape.xs>0)&&decide ((n.data.xs.length:Int)=iO n.shape.xs)&&decide ((n.aG.xs.length:Int)=n.shape.xs.getD 0 0)
 else if n.kind=5 then jT n true false false false true false false&&jW n.a at_&&decide (n.size>0)
 else if n.kind=6 then jT n true true false false false false false&&jW n.a at_&&jW n.b at_
 else if n.kind=7 then jT n true false false false false true false&&jW n.a at_&&decide (n.data.xs.length=1)
 else if n.kind=8 then jT n true false false false false true false&&jW n.a at_&&decide (n.data.xs.length=3)
 else if n.kind=9 then jT n true false true false false false false&&jW n.a at_&&decide (entries n.shape.xs>0)
 else false
theorem ade(w:World)(n:ai)(hn:n.ok w)(at_:Int)(sv:Value):
 Calls Tryz.prog 58 #[mH n at_ sv] w λe w'=>e= .returned (.bool (bY n at_))/\Ext w w':=by
 obtain⟨a,hbase⟩:=lm hn.shape
 have hkl:= @J4 n.shape.xs
 refine fq Tryz.func58 [.agg [ak n.kind,ak n.a,ak n.b,.c n.shape.val,ak n.lo,ak n.hi,ak n.size,.c n.data.val,.c n.aG.val,ak at_,.c sv]] ?_
 (repeat' ((conv=>whnf)<;>first|(show aC _ 61 ..;refine aJ (f:=61) Tryz.call61 _ (λρ w' hw=>mU w' n.shape.base n.shape.cap n.shape.xs (ae hw λR h=>au h hn.shape.rows)) ?_)|(show aC _ 114 ..;((refine fE (f:=114) Tryz.call114 _ (λρ w' hw=>NU w' n at_ sv _ _ _ _ _ _ _ rfl) ?_ ?_<;>intro hl)))|(show aC _ 115 ..;((refine fE (f:=115) Tryz.call115 _ (λρ w' hw=>NV w' n at_ sv _) ?_ ?_<;>intro ha)))|(show aC _ 116 ..;refine aJ (f:=116) Tryz.call116 _ (λρ w' hw=>V5 w' n (ae hw λR h=>hn.shape.later h) at_ sv) ?_)|(show ku _ 114 ..;((refine qX (f:=114) Tryz.call114 _ (λρ w' hw=>NU w' n at_ sv _ _ _ _ _ _ _ rfl) ?_ ?_<;>intro hl)))|(show ku _ 115 ..;((refine qX (f:=115) Tryz.call115 _ (λρ w' hw=>NV w' n at_ sv _) ?_ ?_<;>intro ha)))|(show bC ..;refine ax a 0 (hbase aa) rfl aa ?_)|(show fu ..;(refine aW (λR w' h=>by rw[<-hbase aa];exact au h hn.shape.rows) _ _ (Z0 aa) rfl ?_))|refine aZ ?_|refine ag ?_ ?_<;>intro _))
 all_goals refine aX (λ_ _ h=>h) rfl ?_
 all_goals(unfold bY;repeat(first|rw[if_pos aa]|rw[if_neg aa]))
 all_goals simp only[*,Bool.true_and,Bool.false_and,Bool.and_false,Bool.and_true,Bool.and_eq_true,Bool.and_eq_false_iff,decide_eq_true_eq,decide_eq_false_iff_not]
 all_goals first|omega|simp|(simp;omega)
open Go.RowKit
section
variable {xs:List Int} {b c:Int} {sh:List (List Int)}
theorem J5:∀(xs:List Int) (n:Int),1<=n->n<=64->0<=eZ n xs/\eZ n xs<=64
 |[],n,h1,h2=>⟨by simp only[eZ];omega,by simpa only[eZ]using h2⟩
 |d::r,n,h1,h2=>by
  simp only[eZ]
  by_cases h:d<1\/d>64/n
  ·rw[if_pos h];omega
  ·rw[if_neg h]
   have h3:¬n*d>64:=λg=>h (.inr ((wC h1 aa).2 g))
   have h4:n*1<=n*d:=Int.mul_le_mul_of_nonneg_left aa aa
   exact J5 r (n*d) aa aa
theorem dL(xs:List Int):0<=entries xs/\entries xs<=64:=by
 unfold entries
 split
 ·omega
 ·exact J5 xs 1 aa aa
theorem Dr:∀(xs:List Int) (n:Int),1<=n->n<=64->0<eZ n xs->∀x∈xs,1<=x/\x<=64
 |[],n,_,_,_,x,hx=>by simp at hx
 |d::r,n,h1,h2,h,x,hx=>by
  simp only[eZ]at h
  by_cases hc:d<1\/d>64/n
  ·rw[if_pos hc]at h;omega
  ·rw[if_neg hc]at h
   have h3:¬n*d>64:=λg=>hc (.inr ((wC h1 aa).2 g))
   have h4:n*1<=n*d:=Int.mul_le_mul_of_nonneg_left aa aa
   have h5:1*d<=n*d:=Int.mul_le_mul_of_nonneg_right h1 aa
   rcases List.mem_cons.1 hx with rfl|hx
   ·omega
   ·exact Dr r (n*d) aa aa h x hx
theorem gJ(h:0<entries xs):1<=xs.length/\xs.length<=3/\∀x∈xs,1<=x/\x<=64:=by
 unfold entries at h
 by_cases hl:xs.length<1\/3<xs.length
 ·rw[if_pos hl]at h;omega
 ·rw[if_neg hl]at h
  exact⟨by omega,by omega,Dr xs 1 aa aa h⟩
theorem Dt:∀(xs:List Int) (n:Int),0<nI n xs->∀x∈xs,1<=x/\x<=64
 |[],_,_,x,hx=>by simp at hx
 |d::r,n,h,x,hx=>by
  simp only[nI]at h
  by_cases hc:d<1\/d>64
  ·rw[if_pos hc]at h;omega
  ·rw[if_neg hc]at h
   rcases List.mem_cons.1 hx with rfl|hx
   ·omega
   ·exact Dt r (n*d) h x hx
theorem pq(h:0<iO xs):xs.length=4/\∀x∈xs,1<=x/\x<=64:=by
 have h4:=J4 h
 unfold iO at h
 rw[if_pos h4]at h
 exact⟨h4,Dt xs 1 h⟩
theorem df{k:Nat}(h:k<xs.length):xs.getD k 0∈xs:=by
 simp[List.getD,h]
theorem adf{a:Int}(ha:1<=a)(hb:1<=b)(hc:1<=c)(h:a*b*c<=64):0<entries [a,b,c]:=by
 have e:entries [a,b,c]=eZ 1 [a,b,c]:=by unfold entries;rw[if_neg fC]
 have h1:1<=a*b:=by have:=Int.mul_le_mul ha hb aa aa;omega
 have h2:a*b*1<=a*b*c:=Int.mul_le_mul_of_nonneg_left hc aa
 have h3:a*1<=a*b:=Int.mul_le_mul_of_nonneg_left hb aa
 have t1:¬(a<1\/a>64/1):=by
  rintro(g|g)
  ·omega
  ·have:=(wC (n:=1) aa ha).1 g;omega
 have t2:¬(b<1\/b>64/(1*a)):=by
  rintro(g|g)
  ·omega
  ·have:=(wC (n:=1*a) aa hb).1 g;rw[Int.one_mul]at this;omega
 have t3:¬(c<1\/c>64/(1*a*b)):=by
  rintro(g|g)
  ·omega
  ·have:=(wC (n:=1*a*b) (by rw[Int.one_mul];omega) hc).1 g;rw[Int.one_mul]at this;omega
 rw[e]
 simp only[eZ]
 rw[if_neg t1,if_neg t2,if_neg t3,Int.one_mul]
 omega
theorem Ms{a:Int}(h:0<entries [a,b,c]):1<=a/\1<=b/\1<=c/\a*b*c<=64:=by
 have hd:=(gJ h).2.2
 have ha:=hd a fC
 have hb:=hd b fC
 have hc:=hd c fC
 have e:entries [a,b,c]=eZ 1 [a,b,c]:=by unfold entries;rw[if_neg fC]
 rw[e]at h
 simp only[eZ]at h
 by_cases t1:a<1\/a>64/1
 ·rw[if_pos t1]at h;omega
 rw[if_neg t1]at h
 by_cases t2:b<1\/b>64/(1*a)
 ·rw[if_pos t2]at h;omega
 rw[if_neg t2]at h
 by_cases t3:c<1\/c>64/(1*a*b)
 ·rw[if_pos t3]at h;omega
 have hab:1<=a*b:=by have:=Int.mul_le_mul ha.1 hb.1 aa aa;omega
 have:¬(1*a*b*c>64):=λg=>t3 (.inr ((wC (by rw[Int.one_mul];exact hab) hc.1).2 g))
 rw[Int.one_mul]at this
 exact⟨ha.1,hb.1,hc.1,by omega⟩
theorem adg{a:Int}(h1:1<=a)(h2:a<=64):0<entries [a]:=by
 have e:entries [a]=eZ 1 [a]:=by unfold entries;rw[if_neg fC]
 rw[e]
 simp only[eZ]
 have t1:¬(a<1\/a>64/1):=by
  rintro(g|g)
  ·omega
  ·have:=(wC (n:=1) aa h1).1 g;omega
 rw[if_neg t1];omega
def bM(n:ai)(sh:List (List Int)):Option (List Int):=
 if n.kind=1\/n.kind=2 then some n.shape.xs
 else if n.kind=3 then(if(n.data.xs.length:Int)=n.aG.xs.length*entries (sh.getD n.a.toNat [])then some [(n.aG.xs.length:Int)]else none)
 else if n.kind=4 then
  (if(sh.getD n.a.toNat []).length≠3\/(sh.getD n.a.toNat []).getD 0 0≠n.shape.xs.getD 1 0\/(sh.getD n.a.toNat []).getD 1 0<n.shape.xs.getD 2 0\/(sh.getD n.a.toNat []).getD 2 0<n.shape.xs.getD 3 0 then none
   else if 0<entries [n.shape.xs.getD 0 0,(sh.getD n.a.toNat []).getD 1 0-n.shape.xs.getD 2 0+1,(sh.getD n.a.toNat []).getD 2 0-n.shape.xs.getD 3 0+1]then some [n.shape.xs.getD 0 0,(sh.getD n.a.toNat []).getD 1 0-n.shape.xs.getD 2 0+1,(sh.getD n.a.toNat []).getD 2 0-n.shape.xs.getD 3 0+1]else none)
 else if n.kind=5 then
  (if(sh.getD n.a.toNat []).length≠3\/(sh.getD n.a.toNat []).getD 1 0%n.size≠0\/(sh.getD n.a.toNat []).getD 2 0%n.size≠0 then none
   else some [(sh.getD n.a.toNat []).getD 0 0,(sh.getD n.a.toNat []).getD 1 0/n.size,(sh.getD n.a.toNat []).getD 2 0/n.size])
 else if n.kind=6 then(if sh.getD n.a.toNat []=sh.getD n.b.toNat []then some (sh.getD n.a.toNat [])else none)
 else if n.kind=9 then(if entries n.shape.xs=entries (sh.getD n.a.toNat [])then some n.shape.xs else none)
 else some (sh.getD n.a.toNat [])
structure zN(n:ai)(at_:Nat):Prop where
 a:n.kind≠1->n.kind≠2->0<=n.a/\n.a<at_
 b:n.kind=6->0<=n.b/\n.b<at_
 own:n.kind=1\/n.kind=2\/n.kind=9->0<entries n.shape.xs
 aG:n.kind=3->1<=n.aG.xs.length/\n.aG.xs.length<=64
 V6:n.kind=4->0<iO n.shape.xs
 pool:n.kind=5->0<n.size
 kind:1<=n.kind/\n.kind<=9
theorem dH{n:ai}{at_:Nat}(h:bY n at_=true):zN n at_:=by
 unfold bY at h
 have hk:n.kind=1\/n.kind=2\/n.kind=3\/n.kind=4\/n.kind=5\/n.kind=6\/n.kind=7\/n.kind=8\/n.kind=9\/¬(n.kind=1\/n.kind=2\/n.kind=3\/n.kind=4\/n.kind=5\/n.kind=6\/n.kind=7\/n.kind=8\/n.kind=9):=by omega
 rcases hk with hk|hk|hk|hk|hk|hk|hk|hk|hk|hk
 all_goals repeat(first|rw[if_pos aa]at h|rw[if_neg aa]at h)
 all_goals try simp only[Bool.and_eq_true,decide_eq_true_eq,jW]at h
 ·exact⟨by omega,by omega,by omega,by omega,by omega,by omega,by omega⟩
 ·exact⟨by omega,by omega,by omega,by omega,by omega,by omega,by omega⟩
 ·exact⟨by omega,by omega,by omega,by omega,by omega,by omega,by omega⟩
 ·exact⟨by omega,by omega,by omega,by omega,by omega,by omega,by omega⟩
 ·exact⟨by omega,by omega,by omega,by omega,by omega,by omega,by omega⟩
 ·exact⟨by omega,by omega,by omega,by omega,by omega,by omega,by omega⟩
 ·exact⟨by omega,by omega,by omega,by omega,by omega,by omega,by omega⟩
 ·exact⟨by omega,by omega,by omega,by omega,by omega,by omega,by omega⟩
 ·exact⟨by omega,by omega,by omega,by omega,by omega,by omega,by omega⟩
 ·cases h
theorem Z4(hg:∀s∈sh,0<entries s){i:Int}(h0:0<=i)(h1:i<sh.length):0<entries (sh.getD i.toNat []):=by
 have hi:i.toNat<sh.length:=by omega
 have:sh.getD i.toNat []=sh[i.toNat]:=by simp[List.getD,hi]
 rw[this]
 exact hg _ (List.getElem_mem hi)
theorem V7(h:xs.length=3):xs=[xs.getD 0 0,xs.getD 1 0,xs.getD 2 0]:=by
 match xs,h with
 |[a,b,c],_=>rfl
theorem jF{n:ai}{r:List (List Int)}{s:List Int}(hf:zN n sh.length)(hg:∀s∈sh,0<entries s)(h:bM n sh=some s)(_hr:r=sh):0<entries s:=by
 unfold bM at h
 by_cases h12:n.kind=1\/n.kind=2
 ·rw[if_pos h12]at h;cases h;exact hf.own aa
 rw[if_neg h12]at h
 have ha:=hf.a aa aa
 have hga:=Z4 hg ha.1 ha.2
 by_cases h3:n.kind=3
 ·rw[if_pos h3]at h
  split at h
  ·cases h;have:=hf.aG h3;exact adg aa aa
  ·cases h
 rw[if_neg h3]at h
 by_cases h4:n.kind=4
 ·rw[if_pos h4]at h
  split at h
  ·cases h
  ·split at h
   ·cases h;assumption
   ·cases h
 rw[if_neg h4]at h
 by_cases h5:n.kind=5
 ·rw[if_pos h5]at h
  split at h
  ·cases h
  ·rename_i hn
   cases h
   have hs:=hf.pool h5
   generalize sh.getD n.a.toNat []=a at*
   have hl:a.length=3:=by omega
   rw[V7 hl]at hga
   obtain⟨p0,p1,p2,p3⟩:=Ms hga
   have d1:n.size∣a.getD 1 0:=Int.dvd_of_emod_eq_zero aa
   have d2:n.size∣a.getD 2 0:=Int.dvd_of_emod_eq_zero aa
   have q1:1<=a.getD 1 0/n.size:=by
    have:=Int.ediv_mul_cancel d1
    have h0:0<=a.getD 1 0/n.size:=Int.ediv_nonneg aa aa
    by_cases g:0<a.getD 1 0/n.size
    ·omega
    ·have e:a.getD 1 0/n.size=0:=by omega
     rw[e]at this;omega
   have q2:1<=a.getD 2 0/n.size:=by
    have:=Int.ediv_mul_cancel d2
    have h0:0<=a.getD 2 0/n.size:=Int.ediv_nonneg aa aa
    by_cases g:0<a.getD 2 0/n.size
    ·omega
    ·have e:a.getD 2 0/n.size=0:=by omega
     rw[e]at this;omega
   have l1:a.getD 1 0/n.size<=a.getD 1 0:=Int.ediv_le_self _ aa
   have l2:a.getD 2 0/n.size<=a.getD 2 0:=Int.ediv_le_self _ aa
   have m1:a.getD 0 0*(a.getD 1 0/n.size)<=a.getD 0 0*a.getD 1 0:=Int.mul_le_mul_of_nonneg_left l1 aa
   have m0:0<=a.getD 0 0*a.getD 1 0:=Int.mul_nonneg aa aa
   have m2:a.getD 0 0*(a.getD 1 0/n.size)*(a.getD 2 0/n.size)<=a.getD 0 0*a.getD 1 0*a.getD 2 0:=Int.mul_le_mul m1 l2 aa m0
   exact adf p0 q1 q2 aa
 rw[if_neg h5]at h
 by_cases h6:n.kind=6
 ·rw[if_pos h6]at h
  split at h
  ·cases h;exact hga
  ·cases h
 rw[if_neg h6]at h
 by_cases h9:n.kind=9
 ·rw[if_pos h9]at h
  split at h
  ·cases h;exact hf.own aa
  ·cases h
 rw[if_neg h9]at h
 cases h;exact hga
end
structure aj.a_(v:aj):Prop where
 fits:∀x∈v.xs,-9223372036854775808<=x/\x<=9223372036854775807
 room:v.xs.length<=v.cap
 few:v.xs.length<=1000000
theorem aj.ok.a_{w:World}{v:aj}(h:v.ok w):v.a_:=⟨h.fits,h.room,h.few⟩
def bn(v:aj):bJ:=eY v.base 1 (ints v.xs)
theorem bP{v:aj}{R:Nat->Prop}{w:World}(hs:v.a_)(h:(bn v).holds R w):v.ok w:=⟨aO h,hs.fits,hs.room,hs.few⟩
abbrev J6(N:Nat)(v:aj):bJ:=(bn v).past N
theorem tX{w w':World}{v:Value}{xs:List Int}(h:j_ w w' v 1 3 (ints xs))(hf:∀x∈xs,-9223372036854775808<=x/\x<=9223372036854775807)(hl:xs.length<=1000000):
 ∃u:aj,v=u.val/\u.xs=xs/\u.a_/\(bn u).holds (λb=>w.heap.size<=b/\b<w'.heap.size) w':=by
 obtain⟨base,cap,e,h1⟩:=fw h
 obtain⟨l,e2,F,hF,hr,hcap,_⟩:=h
 rw[e2]at e
 simp only[Value.slice.injEq]at e
 obtain⟨e3,_,e4⟩:=e
 refine⟨⟨base,cap,xs⟩,?_,rfl,⟨hf,?_,hl⟩,h1⟩
 ·rw[e2,e3,e4];simp[aj.val,aF]
 ·rw[<-e4];simpa[aF]using hcap
def jR(w:World)(n:ai)(l:List aj)(r:Option (List Int))(e:Ending)(w':World):Prop:=
 ∃(v:Value) (ok:Bool),e= .returned (.tuple #[v,.bool ok])/\Ext w w'/\ok=r.isSome/\
  ∀xs,r=some xs->∃u:aj,v=u.val/\u.xs=xs/\(u=n.shape\/u∈l\/(u.a_/\(bn u).holds (λb=>w.heap.size<=b/\b<w'.heap.size) w'))
section
variable {B:Base} {H:Heap} {S:bJ} {nx:Nat} {w:World} {n:ai} {l:List aj} {r:Option (List Int)}
theorem uV(u:aj)(hb:∀R w',S.holds R w'->(aH B.w0).holds R w')(hw0:B.w0=w)(hu:u=n.shape\/u∈l)(hr:r=some u.xs):jE B (.sI [.c u.val,.c (.bool true)]) H S nx (jR w n l r):=by
 subst hw0 hr
 exact dz λρ w' hw=>⟨_,true,rfl,aV hw hb,rfl,λxs h=>⟨u,rfl,by simpa using h,hu.elim .inl λh=> .inr (.inl h)⟩⟩
theorem tY{v:SV}(hb:∀R w',S.holds R w'->(aH B.w0).holds R w')(hw0:B.w0=w)(hr:r=none):jE B (.sI [v,.c (.bool false)]) H S nx (jR w n l r):=by
 subst hw0 hr
 exact dz λρ w' hw=>⟨_,false,rfl,aV hw hb,rfl,λxs h=>by cases h⟩
theorem J7{i m:Nat}{xs:List Int}(hb:∀R w',S.holds R w'->(aH B.w0).holds R w')(hw0:B.w0=w)(he:(i,bU.rows (ints xs) 1 3)∈H)(hm:m=xs.length)(hf:∀x∈xs,-9223372036854775808<=x/\x<=9223372036854775807)(hl:xs.length<=1000000)(hr:r=some xs):
 jE B (.sI [.os i m,.c (.bool true)]) H S nx (jR w n l r):=by
 subst hw0 hr hm
 refine dz λρ w' hw=> ?_
 have hn:=dF hw hb he
 rw[aF]at hn
 obtain⟨u,h1,h2,h3,h4⟩:=tX hn hf hl
 exact⟨_,true,rfl,aV hw hb,rfl,λys h=>⟨u,h1,by rw[h2];simpa using h,.inr (.inr ⟨h3,h4⟩)⟩⟩
end
theorem pV(w:World)(s:aj)(h:s.ok w):Calls Tryz.prog 61 #[s.val] w λe w'=>e= .returned (.int .i64 (entries s.xs))/\Ext w w':=mU w s.base s.cap s.xs h.rows
theorem ajw(w:World)(n:ai)(at_:Int)(sv:aY)(hs:sv.ok w)(i:Nat)(s:aj)(hi:sv.l[i]? =some s)(ha:n.a=i):
 Calls Tryz.prog 117 #[mH n at_ sv.val] w (jR w n sv.l (some s.xs)):=by
 refine fq Tryz.func117 [.agg [ak n.kind,ak n.a,ak n.b,.c n.shape.val,ak n.lo,ak n.hi,ak n.size,.c n.data.val,.c n.aG.val,ak at_,.c sv.val]] ?_
 (repeat' ((conv=>whnf)<;>first|(show aC _ 148 ..;refine aJ (f:=148) Tryz.call148 _ (λρ w' hw=>Et w' n at_ sv (ae hw λR h=>hs.later h) i s hi ha) ?_)|refine aN ?_))
 exact uV s (λ_ _ h=>h) rfl (.inr (List.mem_of_getElem? hi)) rfl
theorem alm(w:World)(n:ai)(at_:Int)(sv:aY):
 Calls Tryz.prog 118 #[mH n at_ sv.val] w (jR w n sv.l (some n.shape.xs)):=by
 refine fq Tryz.func118 [.agg [ak n.kind,ak n.a,ak n.b,.c n.shape.val,ak n.lo,ak n.hi,ak n.size,.c n.data.val,.c n.aG.val,ak at_,.c sv.val]] ?_
 (repeat' ((conv=>whnf)<;>first|refine aN ?_))
 exact uV n.shape (λ_ _ h=>h) rfl (.inl rfl) rfl
theorem ajx(w:World)(n:ai)(hn:n.ok w)(at_:Int)(sv:aY)(hs:sv.ok w)(i:Nat)(s:aj)(hi:sv.l[i]? =some s)(ha:n.a=i):
 Calls Tryz.prog 123 #[mH n at_ sv.val] w (jR w n sv.l (if entries n.shape.xs=entries s.xs then some n.shape.xs else none)):=by
 have hso:=hs.each s (List.mem_of_getElem? hi)
 refine fq Tryz.func123 [.agg [ak n.kind,ak n.a,ak n.b,.c n.shape.val,ak n.lo,ak n.hi,ak n.size,.c n.data.val,.c n.aG.val,ak at_,.c sv.val]] ?_
 (repeat' ((conv=>whnf)<;>first|refine aky ?_|(show ku _ 61 [.c n.shape.val] ..;refine iL (f:=61) Tryz.call61 _ (λρ w' hw=>pV w' n.shape (ae hw λR h=>hn.shape.later h)) ?_)|(show ku _ 61 [.c s.val] ..;refine iL (f:=61) Tryz.call61 _ (λρ w' hw=>pV w' s (ae hw λR h=>hso.later h)) ?_)|refine aZ ?_|refine ag ?_ ?_<;>intro _))
 ·rename_i h
  rw[if_pos h]
  exact uV n.shape (λ_ _ h=>h) rfl (.inl rfl) rfl
 ·rename_i h
  rw[if_neg h]
  exact tY (λ_ _ h=>h) rfl rfl
theorem aln(w:World)(n:ai)(at_:Int)(sv:aY)(hs:sv.ok w)(i j:Nat)(s t:aj)(hi:sv.l[i]? =some s)(ha:n.a=i)(hj:sv.l[j]? =some t)(hb:n.b=j):
 Calls Tryz.prog 122 #[mH n at_ sv.val] w (jR w n sv.l (if s.xs=t.xs then some s.xs else none)):=by
 have hso:=hs.each s (List.mem_of_getElem? hi)
 have hto:=hs.each t (List.mem_of_getElem? hj)
 obtain⟨hjl,hjt⟩:=List.getElem?_eq_some_iff.1 hj
 have hr:(aM sv.l)[j]? =some [t.val]:=by rw[dh hjl,hjt]
 obtain⟨a,hb'⟩:∃a,sv.base=some a:=aI (j:=j) hs.rows (by rw[aR];exact hjl)
 refine fq Tryz.func122 [.agg [ak n.kind,ak n.a,ak n.b,.c n.shape.val,ak n.lo,ak n.hi,ak n.size,.c n.data.val,.c n.aG.val,ak at_,.c sv.val]] ?_
 (repeat' ((conv=>whnf)<;>first|refine aky ?_|(show bC ..;refine ax a j hb' hb hjl ?_)|(show fu ..;(refine aW (λR w' h=>by rw[<-hb'];exact au h hs.rows) _ _ hr rfl ?_))|(show ku _ 62 ..;((refine qX (f:=62) Tryz.call62 _ (λρ w' hw=>qY w' s t (ae hw λR h=>hso.later h) (ae hw λR h=>hto.later h)) ?_ ?_<;>intro he)))|refine aZ ?_))
 ·rw[if_pos (of_decide_eq_true he)]
  exact uV s (λ_ _ h=>h) rfl (.inr (List.mem_of_getElem? hi)) rfl
 ·rw[if_neg (of_decide_eq_false he)]
  exact tY (λ_ _ h=>h) rfl rfl
abbrev alo:Go.SX.DT:=(eF [0,1,2,3,5,6,7,8,9,10,11,12,13] (.alt 4 (eF [114,115,16,17,18,19] .done) (.one 14 (.alt 4 (eF [115,16,17,18,19] .done) (eF [115,16,17,104,18,19] .done)))))
abbrev alp:Go.SX.DT:=(eF [0,1,2,3,4,5,6,7,8,9,10,11,12,13,14,15,16,117,18,19] .done)
abbrev alq:Go.SX.DT:=(eF [0,1,2,3,4,5,6,7,8,9,10,11,12,13,14,15,16,17,18,19,20,21,22,23,24,125,26] .done)
theorem agd(w:World)(n:ai)(hn:n.ok w)(at_:Int)(sv:aY)(hs:sv.ok w)(i:Nat)(s:aj)(hi:sv.l[i]? =some s)(ha:n.a=i)(hbi:n.aG.xs.length<=64):
 Calls Tryz.prog 119 #[mH n at_ sv.val] w (jR w n sv.l (if(n.data.xs.length:Int)=n.aG.xs.length*entries s.xs then some [(n.aG.xs.length:Int)]else none)):=by
 have hso:=hs.each s (List.mem_of_getElem? hi)
 have hm:0<=(n.aG.xs.length:Int)*entries s.xs/\(n.aG.xs.length:Int)*entries s.xs<=4096:=by
  have h1:=dL s.xs
  have h2:(n.aG.xs.length:Int)*entries s.xs<=64*64:=Int.mul_le_mul aa h1.2 h1.1 aa
  have h3:0<=(n.aG.xs.length:Int)*entries s.xs:=Int.mul_nonneg aa h1.1
  omega
 refine fq Tryz.func119 [.agg [ak n.kind,ak n.a,ak n.b,.c n.shape.val,ak n.lo,ak n.hi,ak n.size,.c n.data.val,.c n.aG.val,ak at_,.c sv.val]] ?_
 (repeat' ((conv=>whnf)<;>first|refine aiN ?_|(show aC _ 61 ..;refine aJ (f:=61) Tryz.call61 _ (λρ w' hw=>pV w' s (ae hw λR h=>hso.later h)) ?_)|(show cO _ 1 ..;refine mE [] _ alo ?_)|refine aN ?_|refine ag ?_ ?_<;>intro _|refine And.intro ?_ ?_))
 all_goals first
  |(rw[if_pos aa];exact J7 (λ_ _ h=>h) rfl List.mem_cons_self rfl ahv fC rfl)
  |(rw[if_neg aa];exact tY (λ_ _ h=>h) rfl rfl)
theorem aj.ok.at_{w:World}{v:aj}{a:Addr}(h:v.ok w)(ha:v.base=some a):∀(R:Nat->Prop) w',(aH w).holds R w'->bf w' (some a) 1 (ints v.xs):=λR w' hb=>by rw[<-ha];exact au hb h.rows
theorem mem3{p:Int->Prop}{a b c:Int}(ha:p a)(hb:p b)(hc:p c):∀x∈[a,b,c],p x:=by
 intro x hx
 simp only[List.mem_cons,List.not_mem_nil,or_false]at hx
 rcases hx with rfl|rfl|rfl<;>assumption
theorem ajy(w:World)(n:ai)(hn:n.ok w)(at_:Int)(sv:aY)(hs:sv.ok w)(i:Nat)(s:aj)(hi:sv.l[i]? =some s)(ha:n.a=i)(hz:0<n.size)(hg:0<entries s.xs):
 Calls Tryz.prog 121 #[mH n at_ sv.val] w (jR w n sv.l (if s.xs.length≠3\/s.xs.getD 1 0%n.size≠0\/s.xs.getD 2 0%n.size≠0 then none else some [s.xs.getD 0 0,s.xs.getD 1 0/n.size,s.xs.getD 2 0/n.size])):=by
 have hso:=hs.each s (List.mem_of_getElem? hi)
 obtain⟨hl1,hl3,hd⟩:=gJ hg
 obtain⟨a,hb⟩:=hso.base aa
 have hd0:0<s.xs.length->1<=s.xs.getD 0 0/\s.xs.getD 0 0<=64:=λh=>hd _ (df h)
 have hd1:1<s.xs.length->1<=s.xs.getD 1 0/\s.xs.getD 1 0<=64:=λh=>hd _ (df h)
 have hd2:2<s.xs.length->1<=s.xs.getD 2 0/\s.xs.getD 2 0<=64:=λh=>hd _ (df h)
 have hq1:1<s.xs.length->0<=s.xs.getD 1 0/n.size/\s.xs.getD 1 0/n.size<=64:=λh=>⟨Int.ediv_nonneg aa aa,Int.le_trans (Int.ediv_le_self _ aa) aa⟩
 have hq2:2<s.xs.length->0<=s.xs.getD 2 0/n.size/\s.xs.getD 2 0/n.size<=64:=λh=>⟨Int.ediv_nonneg aa aa,Int.le_trans (Int.ediv_le_self _ aa) aa⟩
 refine fq Tryz.func121 [.agg [ak n.kind,ak n.a,ak n.b,.c n.shape.val,ak n.lo,ak n.hi,ak n.size,.c n.data.val,.c n.aG.val,ak at_,.c sv.val]] ?_
 (repeat' ((conv=>whnf)<;>first|refine aiN ?_|(show bC ..;refine ax _ 0 hb rfl aa ?_)|(show fu ..;refine bO (hso.at_ hb) (j:=0) aa ?_)|(show bC ..;refine ax _ 1 hb rfl aa ?_)|(show fu ..;refine bO (hso.at_ hb) (j:=1) aa ?_)|(show bC ..;refine ax _ 2 hb rfl aa ?_)|(show fu ..;refine bO (hso.at_ hb) (j:=2) aa ?_)|(show ww ..;refine rO aa aa ?_)|(show qQ ..;refine div_pos rfl aa aa aa ?_)|(show cO _ 4 ..;refine mE [] _ alp ?_)|refine aZ ?_|refine ag ?_ ?_<;>intro _))
 all_goals first
  |(rw[if_neg aa];exact J7 (λ_ _ h=>h) rfl List.mem_cons_self rfl (mem3 aa aa aa) fC rfl)
  |(rw[if_pos aa];exact tY (λ_ _ h=>h) rfl rfl)
theorem ajz(w:World)(n:ai)(hn:n.ok w)(at_:Int)(sv:aY)(hs:sv.ok w)(i:Nat)(s:aj)(hi:sv.l[i]? =some s)(ha:n.a=i)(hk:0<iO n.shape.xs)(hg:0<entries s.xs):
 Calls Tryz.prog 120 #[mH n at_ sv.val] w (jR w n sv.l (
  if s.xs.length≠3\/s.xs.getD 0 0≠n.shape.xs.getD 1 0\/s.xs.getD 1 0<n.shape.xs.getD 2 0\/s.xs.getD 2 0<n.shape.xs.getD 3 0 then none
  else if 0<entries [n.shape.xs.getD 0 0,s.xs.getD 1 0-n.shape.xs.getD 2 0+1,s.xs.getD 2 0-n.shape.xs.getD 3 0+1]then some [n.shape.xs.getD 0 0,s.xs.getD 1 0-n.shape.xs.getD 2 0+1,s.xs.getD 2 0-n.shape.xs.getD 3 0+1]else none)):=by
 have hso:=hs.each s (List.mem_of_getElem? hi)
 obtain⟨hl1,hl3,hd⟩:=gJ hg
 obtain⟨a,hb⟩:=hso.base aa
 obtain⟨hk4,hkd⟩:=pq hk
 obtain⟨c,hc⟩:=hn.shape.base aa
 have hd0:0<s.xs.length->1<=s.xs.getD 0 0/\s.xs.getD 0 0<=64:=λh=>hd _ (df h)
 have hd1:1<s.xs.length->1<=s.xs.getD 1 0/\s.xs.getD 1 0<=64:=λh=>hd _ (df h)
 have hd2:2<s.xs.length->1<=s.xs.getD 2 0/\s.xs.getD 2 0<=64:=λh=>hd _ (df h)
 have hk0:=hkd _ (df (k:=0) aa)
 have hk1:=hkd _ (df (k:=1) aa)
 have hk2:=hkd _ (df (k:=2) aa)
 have hk3:=hkd _ (df (k:=3) aa)
 refine fq Tryz.func120 [.agg [ak n.kind,ak n.a,ak n.b,.c n.shape.val,ak n.lo,ak n.hi,ak n.size,.c n.data.val,.c n.aG.val,ak at_,.c sv.val]] ?_
 (repeat' ((conv=>whnf)<;>first|refine aiN ?_|(show bC ..;refine ax _ 0 hb rfl aa ?_)|(show fu ..;refine bO (hso.at_ hb) (j:=0) aa ?_)|(show bC ..;refine ax _ 1 hb rfl aa ?_)|(show fu ..;refine bO (hso.at_ hb) (j:=1) aa ?_)|(show bC ..;refine ax _ 2 hb rfl aa ?_)|(show fu ..;refine bO (hso.at_ hb) (j:=2) aa ?_)|(show bC ..;refine ax _ 0 hc rfl aa ?_)|(show fu ..;refine bO (hn.shape.at_ hc) (j:=0) aa ?_)|(show bC ..;refine ax _ 1 hc rfl aa ?_)|(show fu ..;refine bO (hn.shape.at_ hc) (j:=1) aa ?_)|(show bC ..;refine ax _ 2 hc rfl aa ?_)|(show fu ..;refine bO (hn.shape.at_ hc) (j:=2) aa ?_)|(show bC ..;refine ax _ 3 hc rfl aa ?_)|(show fu ..;refine bO (hn.shape.at_ hc) (j:=3) aa ?_)|(show aC _ 61 ..;refine aJ (f:=61) Tryz.call61 _ (λρ w' hw=>mU w' (ρ 1).base (ρ 1).cap [n.shape.xs.getD 0 0,s.xs.getD 1 0-n.shape.xs.getD 2 0+1,s.xs.getD 2 0-n.shape.xs.getD 3 0+1] (ed hw List.mem_cons_self)) ?_)|(show cO _ 4 ..;refine mE [] _ alq ?_)|refine aZ ?_|refine ag ?_ ?_<;>intro _))
 all_goals first
  |(rw[if_neg aa,if_pos aa];exact J7 (λ_ _ h=>h) rfl List.mem_cons_self rfl (mem3 aa aa aa) fC rfl)
  |(rw[if_neg aa,if_neg aa];exact tY (λ_ _ h=>h) rfl rfl)
  |(rw[if_pos aa];exact tY (λ_ _ h=>h) rfl rfl)
section
variable {H:Heap} {S:bJ} {nx:Nat} {l:List aj} {r:Option (List Int)}
theorem mV{cx:Cx}{f:FuncId}{args:List SV}{K:SV->Heap->bJ->Nat->Prop}{n:ai}(R0:Option (List Int))(hf:∀ar w,(callFunc f ar).run cx.P w= .ok (.enter f ar) w)(hr:R0=r)
 (hc:∀ρ w',dY cx.B ρ nx H S w'->Calls cx.P f (SV.d_ ρ args).toArray w' (jR w' n l r))
 (h0:R0=none->∀v,K (.c (.tuple #[v,.bool false])) H S nx)
 (h1:∀u:aj,R0=some u.xs->(u=n.shape\/u∈l)->K (.c (.tuple #[u.val,.bool true])) H S nx)
 (h2:∀u:aj,R0=some u.xs->u.a_->K (.c (.tuple #[u.val,.bool true])) H (S.and (J6 cx.B.w0.heap.size u)) nx):aC cx f args H S nx K:=by
 subst hr
 rw[gI]
 refine⟨hf,λρ w hw=>(hc ρ w hw).mono ?_⟩
 rintro e w' ⟨v,ok,rfl,he,hok,hv⟩
 cases hr:R0 with
 |none=>
  rw[hr]at hok
  obtain rfl:ok=false:=hok
  exact⟨.c (.tuple #[v,.bool false]),ρ,H,S,nx,rfl,λ_ _=>rfl,Nat.le_refl _,SV.ji _,hw.ext he,h0 hr v⟩
 |some xs=>
  rw[hr]at hok
  obtain rfl:ok=true:=hok
  obtain⟨u,rfl,hu,hcase⟩:=hv xs hr
  rw[<-hu]at hr
  rcases hcase with hcase|hcase|⟨uW,hnew⟩
  ·exact⟨.c (.tuple #[u.val,.bool true]),ρ,H,S,nx,rfl,λ_ _=>rfl,Nat.le_refl _,SV.ji _,hw.ext he,h1 u hr (.inl hcase)⟩
  ·exact⟨.c (.tuple #[u.val,.bool true]),ρ,H,S,nx,rfl,λ_ _=>rfl,Nat.le_refl _,SV.ji _,hw.ext he,h1 u hr (.inr hcase)⟩
  ·refine⟨.c (.tuple #[u.val,.bool true]),ρ,H,S.and (J6 cx.B.w0.heap.size u),nx,rfl,λ_ _=>rfl,Nat.le_refl _,SV.ji _,?_,h2 u hr uW⟩
   obtain⟨R,φ,nW⟩:=hw
   have sS:=nW.step (Step.Ex he) (λ_ _ h=>h) (λ_ _ _ _ h=>h)
   refine⟨λb=>R b\/(w.heap.size<=b/\b<w'.heap.size),φ,sS.os,sS.tape,sS.output,sS.size,sS.pin,λb hb=>hb.elim (sS.ro b) (λh=>h.2),⟨S.stable (λ_ h=> .inl h) (λ_ _=>rfl) sS.sJ,?_⟩,sS.key,sS.kS,λp hp b hb hb'=> ?_,sS.sep⟩
   ·exact(bn u).stable (λb hb=>⟨.inr hb,Nat.le_trans nW.size hb.1⟩) (λ_ _=>rfl) hnew
   ·rcases hb' with hb'|hb'
    ·exact sS.apart p hp b hb hb'
    ·have:=bU.size (nW.kS p hp) hb;omega
theorem ET{B:Base}{w:World}{n:ai}(u:aj)(hb:∀R w',S.holds R w'->(aH B.w0).holds R w')(hw0:B.w0=w)(hs:u.a_)(hr:r=some u.xs):
 jE B (.sI [.c u.val,.c (.bool true)]) H (S.and (J6 B.w0.heap.size u)) nx (jR w n l r):=by
 subst hw0 hr
 refine dz λρ w' hw=>⟨_,true,rfl,aV hw (λR w' h=>hb R w' h.1),rfl,λxs h=>⟨u,rfl,by simpa using h,.inr (.inr ⟨hs,?_⟩)⟩⟩
 obtain⟨R,φ,hw⟩:=hw
 exact(bn u).stable (λb hb=>⟨hb.2,hw.ro b hb.1⟩) (λ_ _=>rfl) hw.sJ.2
theorem Z5(w:World)(n:ai)(hn:n.ok w)(at_:Int)(sv:aY)(hs:sv.ok w)(hf:zN n sv.l.length)(hg:∀s∈sv.l,0<entries s.xs):
 Calls Tryz.prog 59 #[mH n at_ sv.val] w (jR w n sv.l (bM n (sv.l.map (·.xs)))):=by
 by_cases h12:n.kind=1\/n.kind=2
 ·have hsp:bM n (sv.l.map (·.xs))=some n.shape.xs:=by unfold bM;rw[if_pos h12]
  refine fq Tryz.func59 [.agg [ak n.kind,ak n.a,ak n.b,.c n.shape.val,ak n.lo,ak n.hi,ak n.size,.c n.data.val,.c n.aG.val,ak at_,.c sv.val]] ?_
  (repeat' ((conv=>whnf)<;>first|(show aC _ 118 ..;(refine mV (f:=118) (n:=n) (l:=sv.l) (bM n (sv.l.map (·.xs))) Tryz.call118 hsp (λρ w' hw=>alm w' n at_ sv) ?_ ?_ ?_<;>intros))|refine aN ?_|refine ag ?_ ?_<;>intro _))
  all_goals first
   |exact tY (λ_ _ h=>h) rfl vE
   |exact uV _ (λ_ _ h=>h) rfl vE vE
   |exact ET _ (λ_ _ h=>h) rfl vE vE
 ·obtain⟨ha0,ha1⟩:=hf.a aa aa
  obtain⟨i,hia⟩:=Int.eq_ofNat_of_zero_le ha0
  have hil:i<sv.l.length:=by omega
  obtain⟨s,hi⟩:∃s,sv.l[i]? =some s:=⟨_,List.getElem?_eq_getElem hil⟩
  have hA:(sv.l.map (·.xs)).getD n.a.toNat []=s.xs:=by rw[hia];simp[List.getD,hi]
  have hgs:=hg s (List.mem_of_getElem? hi)
  by_cases h6:n.kind=6
  ·obtain⟨hb0,hb1⟩:=hf.b h6
   obtain⟨j,hjb⟩:=Int.eq_ofNat_of_zero_le hb0
   have hjl:j<sv.l.length:=by omega
   obtain⟨t,hj⟩:∃t,sv.l[j]? =some t:=⟨_,List.getElem?_eq_getElem hjl⟩
   have hB:(sv.l.map (·.xs)).getD n.b.toNat []=t.xs:=by rw[hjb];simp[List.getD,hj]
   have hsp:bM n (sv.l.map (·.xs))=if s.xs=t.xs then some s.xs else none:=by
    unfold bM;simp only[hA,hB];repeat(first|rw[if_pos aa]|rw[if_neg aa])
   refine fq Tryz.func59 [.agg [ak n.kind,ak n.a,ak n.b,.c n.shape.val,ak n.lo,ak n.hi,ak n.size,.c n.data.val,.c n.aG.val,ak at_,.c sv.val]] ?_
   (repeat' ((conv=>whnf)<;>first|(show aC _ 122 ..;(refine mV (f:=122) (n:=n) (l:=sv.l) (bM n (sv.l.map (·.xs))) Tryz.call122 hsp (λρ w' hw=>aln w' n at_ sv (ae hw λR h=>hs.later h) i j s t hi hia hj hjb) ?_ ?_ ?_<;>intros))|refine aN ?_|refine ag ?_ ?_<;>intro _))
   all_goals first
    |exact tY (λ_ _ h=>h) rfl vE
    |exact uV _ (λ_ _ h=>h) rfl vE vE
    |exact ET _ (λ_ _ h=>h) rfl vE vE
  ·refine fq Tryz.func59 [.agg [ak n.kind,ak n.a,ak n.b,.c n.shape.val,ak n.lo,ak n.hi,ak n.size,.c n.data.val,.c n.aG.val,ak at_,.c sv.val]] ?_
   (repeat' ((conv=>whnf)<;>first|(show aC _ 117 ..;(refine mV (f:=117) (n:=n) (l:=sv.l) (bM n (sv.l.map (·.xs))) Tryz.call117 acu (λρ w' hw=>ajw w' n at_ sv (ae hw λR h=>hs.later h) i s hi hia) ?_ ?_ ?_<;>intros))|(show aC _ 119 ..;(refine mV (f:=119) (n:=n) (l:=sv.l) (bM n (sv.l.map (·.xs))) Tryz.call119 acu (λρ w' hw=>agd w' n (ae hw λR h=>hn.later h) at_ sv (ae hw λR h=>hs.later h) i s hi hia (hf.aG aa).2) ?_ ?_ ?_<;>intros))|(show aC _ 120 ..;(refine mV (f:=120) (n:=n) (l:=sv.l) (bM n (sv.l.map (·.xs))) Tryz.call120 acu (λρ w' hw=>ajz w' n (ae hw λR h=>hn.later h) at_ sv (ae hw λR h=>hs.later h) i s hi hia (hf.V6 aa) hgs) ?_ ?_ ?_<;>intros))|(show aC _ 121 ..;(refine mV (f:=121) (n:=n) (l:=sv.l) (bM n (sv.l.map (·.xs))) Tryz.call121 acu (λρ w' hw=>ajy w' n (ae hw λR h=>hn.later h) at_ sv (ae hw λR h=>hs.later h) i s hi hia (hf.pool aa) hgs) ?_ ?_ ?_<;>intros))|(show aC _ 123 ..;(refine mV (f:=123) (n:=n) (l:=sv.l) (bM n (sv.l.map (·.xs))) Tryz.call123 acu (λρ w' hw=>ajx w' n (ae hw λR h=>hn.later h) at_ sv (ae hw λR h=>hs.later h) i s hi hia) ?_ ?_ ?_<;>intros))|refine aN ?_|refine ag ?_ ?_<;>intro _))
   all_goals first
    |exact tY (λ_ _ h=>h) rfl vE
    |exact uV _ (λ_ _ h=>h) rfl vE vE
    |exact ET _ (λ_ _ h=>h) rfl vE vE
end
section
variable {base:Option Addr} {len cap size nx i m:Nat} {K:SV->Prop} {B:Base} {ρ:Nat->SX.Loc} {H:Heap} {S:bJ} {w:World} {T:TypeId} {R:List (List Value)} {xs:List Int} {b:Int}
theorem NW(hb:base=none)(hl:len=0)(h:K (.c (.slice none 0 0))):nU base len cap size none (some (len:Int)) (some (len:Int)) K:=by
 subst hb hl
 exact J2 (Nat.zero_le _) h
theorem Cn{a:Addr}(hb:base=some a)(hc:len<=cap)(h:K (.c (.slice (some a) len len))):nU base len cap size none (some (len:Int)) (some (len:Int)) K:=by
 subst hb
 exact J2 hc h
theorem J8(hw:dY B ρ nx H S w)(he:(i,bU.rows R 1 T)∈H)(hR:R=ints xs)(hm:m=xs.length)(hf:∀x∈xs,i64 x)(hl:xs.length<=1000000):
 ∃v:aj,(SV.d_ ρ [.os i m]).toArray= #[v.val]/\v.xs=xs/\v.ok w:=by
 subst hR hm
 refine⟨⟨(ρ i).base,(ρ i).cap,xs⟩,rfl,rfl,ed hw he,hf,?_,hl⟩
 obtain⟨R,φ,hw⟩:=hw
 have:=(hw.kS _ he).2.1
 simpa[aF]using this
theorem PV(hw:dY B ρ nx H S w)(he:(i,bU.rows R 1 T)∈H)(hR:R=ints xs)(hm:m=xs.length)(hf:∀x∈xs,i64 x)(hl:xs.length<=1000000)(h1:1<=xs.length):
 Calls Tryz.prog 53 (SV.d_ ρ [.os i m]).toArray w λe w'=>e= .returned (.int .i64 (foldI max xs))/\Ext w w':=by
 obtain⟨v,e1,rfl,hv⟩:=J8 hw he hR hm hf hl
 rw[e1];exact Pm w v hv h1
theorem PW(hw:dY B ρ nx H S w)(he:(i,bU.rows R 1 T)∈H)(hR:R=ints xs)(hm:m=xs.length)(hf:∀x∈xs,i64 x)(hl:xs.length<=1000000)(h1:1<=xs.length):
 Calls Tryz.prog 52 (SV.d_ ρ [.os i m]).toArray w λe w'=>e= .returned (.int .i64 (foldI min xs))/\Ext w w':=by
 obtain⟨v,e1,rfl,hv⟩:=J8 hw he hR hm hf hl
 rw[e1];exact Pk w v hv h1
theorem Du:∀(xs:List Int) (a b:Int),xs.foldl max a<=b↔a<=b/\∀x∈xs,x<=b
 |[],a,b=>by simp
 |x::r,a,b=>by
  rw[List.foldl_cons,Du r]
  simp only[List.mem_cons,forall_eq_or_imp]
  constructor
  ·rintro⟨h1,h2⟩;exact⟨by omega,by omega,h2⟩
  ·rintro⟨h1,h2,h3⟩;exact⟨by omega,h3⟩
theorem Dv:∀(xs:List Int) (a b:Int),b<=xs.foldl min a↔b<=a/\∀x∈xs,b<=x
 |[],a,b=>by simp
 |x::r,a,b=>by
  rw[List.foldl_cons,Dv r]
  simp only[List.mem_cons,forall_eq_or_imp]
  constructor
  ·rintro⟨h1,h2⟩;exact⟨by omega,by omega,h2⟩
  ·rintro⟨h1,h2,h3⟩;exact⟨by omega,h3⟩
theorem PX(h:xs≠[]):foldI max xs<=b↔∀x∈xs,x<=b:=by
 cases xs with
 |nil=>exact absurd rfl h
 |cons x r=>simp only[foldI,Du,List.mem_cons,forall_eq_or_imp]
theorem PY(h:xs≠[]):b<=foldI min xs↔∀x∈xs,b<=x:=by
 cases xs with
 |nil=>exact absurd rfl h
 |cons x r=>simp only[foldI,Dv,List.mem_cons,forall_eq_or_imp]
theorem Co(xs:List Int):qa xs=decide (foldI max (xs++[0])<=1048576/\ -1048576<=foldI min (xs++[0])):=by
 rw[qa,Bool.eq_iff_iff]
 simp only[List.all_eq_true,decide_eq_true_eq]
 rw[PX fC,PY fC]
 simp only[List.mem_append,List.mem_singleton]
 constructor
 ·intro h
  exact⟨λx hx=>hx.elim (λg=>(h x g).2) (λg=>by omega),λx hx=>hx.elim (λg=>(h x g).1) (λg=>by omega)⟩
 ·rintro⟨h1,h2⟩ x hx
  exact⟨h2 x (.inl hx),h1 x (.inl hx)⟩
@[irreducible] def gW (n:ai):Bool:=qa n.data.xs&&qa n.aG.xs&&qa [n.lo,n.hi]&&decide (n.lo<=n.hi)
theorem J9{v:aj}(h:v.ok w):(v.base=none/\v.xs=[])\/∃a,v.base=some a:=by
 cases hb:v.base with
 |none=>
  left
  refine⟨rfl,?_⟩
  rcases h.rows with h|⟨a,ha,_⟩
  ·simpa[ints]using h
  ·rw[hb]at ha;cases ha
 |some a=>exact .inr ⟨a,rfl⟩
theorem PZ(h:∀x∈xs,-9223372036854775808<=x/\x<=9223372036854775807):∀x∈xs++[0],i64 x:=by
 intro x hx
 rcases List.mem_append.1 hx with hx|hx
 ·exact h x hx
 ·simp at hx;subst hx;exact⟨by decide,by decide⟩
theorem adh(w:World)(n:ai)(hn:n.ok w)(hd:n.data.xs.length<=5000)(hbi:n.aG.xs.length<=5000)(at_:Int)(sv:Value):
 Calls Tryz.prog 60 #[mH n at_ sv] w λe w'=>e= .returned (.bool (gW n))/\Ext w w':=by
 have hD:=Co n.data.xs
 have hBi:=Co n.aG.xs
 have hL:=Co [n.lo,n.hi]
 have fD:=PZ hn.data.fits
 have fB:=PZ hn.aG.fits
 have fL:∀x∈[n.lo,n.hi]++[0],i64 x:=PZ (by intro x hx;simp at hx;rcases hx with rfl|rfl;exact hn.kE;exact hn.kF)
 have hfD:=hn.data.room
 have hfB:=hn.aG.room
 have hDn:n.data.xs=[]->foldI max (n.data.xs++[0])=0/\foldI min (n.data.xs++[0])=0:=λh=>by rw[h];exact⟨rfl,rfl⟩
 have hBn:n.aG.xs=[]->foldI max (n.aG.xs++[0])=0/\foldI min (n.aG.xs++[0])=0:=λh=>by rw[h];exact⟨rfl,rfl⟩
 rcases J9 hn.data with⟨bD,xD⟩|⟨aD,bD⟩<;>rcases J9 hn.aG with⟨bB,xB⟩|⟨aB,bB⟩
 all_goals
  try have qD:=hDn xD
  try have qB:=hBn xB
  refine fq Tryz.func60 [.agg [ak n.kind,ak n.a,ak n.b,.c n.shape.val,ak n.lo,ak n.hi,ak n.size,.c n.data.val,.c n.aG.val,ak at_,.c sv]] ?_
  (repeat' ((conv=>whnf)<;>first|refine aN ?_))
  refine Wp.freeze 1 (xs:=ints [n.lo,n.hi]) (k:=1) (T:=3) (List.mem_cons_of_mem _ List.mem_cons_self) ?_
  intro l hl
  have hl2:2<=l.cap:=hl
  refine Wp.know (p:=∃a,l.base=some a/\∀R w',((aH w).and (eY l.base 1 (ints [n.lo,n.hi]))).holds R w'->bf w' (some a) 1 (ints [n.lo,n.hi])) ?_ ?_
  ·rintro ρ w' ⟨R,φ,hw⟩
   obtain⟨b,off,hb,_⟩:=hw.sJ.2.2.resolve_left (by simp[ints])
   exact⟨_,hb,λR' w'' h=>by rw[<-hb];exact aO h.2⟩
  rintro⟨aL,bL,hRL⟩
  refine Wp.rounds 4 ?_
  (repeat' ((conv=>whnf)<;>first|(show nU ..;(first|refine NW bD (by simp[xD]) ?_|refine NW bB (by simp[xB]) ?_|refine Cn bD aa ?_|refine Cn bB aa ?_|refine Cn bL aa ?_))|(show fG ..;(refine b_ (by first|omega|decide|(show(n.data.xs.length+1)*8<=140737488355328;omega)|(show(n.aG.xs.length+1)*8<=140737488355328;omega)) ?_))|(show tV ..;(first|refine mD (aF _) (λR w' h=>hn.data.at_ bD R w' h.1) kN ?_|refine mD (aF _) (λR w' h=>hn.aG.at_ bB R w' h.1) kN ?_|refine mD (by simp[ints]) hRL kN ?_))|(show aC _ 53 ..;(refine aJ (f:=53) Tryz.call53 (.int .i64 (foldI max (n.data.xs++[0]))) (λρ w' hw=>PV hw List.mem_cons_self (xs:=n.data.xs++[0]) ak8 af0 fD wy fC) ?_))|(show aC _ 53 ..;(refine aJ (f:=53) Tryz.call53 (.int .i64 (foldI max (n.aG.xs++[0]))) (λρ w' hw=>PV hw List.mem_cons_self (xs:=n.aG.xs++[0]) ak9 af0 fB wy fC) ?_))|(show aC _ 53 ..;refine aJ (f:=53) Tryz.call53 (.int .i64 (foldI max ([n.lo,n.hi]++[0]))) (λρ w' hw=>PV hw List.mem_cons_self (xs:=[n.lo,n.hi]++[0]) rfl rfl fL fC fC) ?_)|(show aC _ 52 ..;(refine aJ (f:=52) Tryz.call52 (.int .i64 (foldI min (n.data.xs++[0]))) (λρ w' hw=>PW hw List.mem_cons_self (xs:=n.data.xs++[0]) ak8 af0 fD wy fC) ?_))|(show aC _ 52 ..;(refine aJ (f:=52) Tryz.call52 (.int .i64 (foldI min (n.aG.xs++[0]))) (λρ w' hw=>PW hw List.mem_cons_self (xs:=n.aG.xs++[0]) ak9 af0 fB wy fC) ?_))|(show aC _ 52 ..;refine aJ (f:=52) Tryz.call52 (.int .i64 (foldI min ([n.lo,n.hi]++[0]))) (λρ w' hw=>PW hw List.mem_cons_self (xs:=[n.lo,n.hi]++[0]) rfl rfl fL fC fC) ?_)|refine aN ?_|refine ag ?_ ?_<;>intro _))
  all_goals(conv=>whnf)
  all_goals(refine aX (B:=⟨w,[]⟩) (w:=w) (S:=(aH w).and (eY l.base 1 (ints [n.lo,n.hi]))) (λ_ _ h=>h.1) rfl ?_;unfold gW;(first|rw[show qa n.data.xs=true from by rw[xD];rfl]|rw[hD]);(first|rw[show qa n.aG.xs=true from by rw[xB];rfl]|rw[hBi]);rw[hL])
  all_goals first|(simp only[Bool.and_eq_false_iff,decide_eq_false_iff_not];omega)|((repeat rw[decide_eq_true aa]);rfl)
end
section
variable {r:List ai} {sh:List (List Int)} {s:List Int} {B:Base} {H:Heap} {nx i:Nat} {T:TypeId}
structure bE where
 base:Option Addr
 cap:Nat
 l:List ai
 out:Int
def bq(l:List ai):List (List Value):=l.map ai.cells
theorem dB(l:List ai):(bq l).length=l.length:=by simp[bq]
theorem bQ{l:List ai}{k:Nat}(h:k<l.length):(bq l)[k]? =some l[k].cells:=by simp[bq,h]
def bE.val(g:bE):Value:= .agg #[.slice g.base g.l.length g.cap,.int .i64 g.out]
structure ai.small(n:ai):Prop where
 data:n.data.xs.length<=5000
 aG:n.aG.xs.length<=5000
structure bE.ok(w:World)(g:bE):Prop where
 rows:bf w g.base 9 (bq g.l)
 each:∀n∈g.l,n.ok w
 small:∀n∈g.l,n.small
 few:g.l.length<=1000000
 H7:i64 g.out
theorem bE.ok.later{w w':World}{R:Nat->Prop}{g:bE}(h:g.ok w)(hb:(aH w).holds R w'):g.ok w':=⟨au hb h.rows,λn hn=>(h.each n hn).later hb,h.small,h.few,h.H7⟩
def eG:List ai->List (List Int)->Int×List (List Int)
 |[],sh=>(0,sh)
 |n::r,sh=>if bY n sh.length=false then(3,[])else
  match bM n sh with
  |none=>(4,[])
  |some s=>if gW n=false then(5,[])else eG r (sh++[s])
def check(g:bE):Int×List (List Int):=if g.l.length<1\/24<g.l.length\/g.out<0\/(g.l.length:Int)<=g.out then(3,[])else eG g.l []
theorem r_{n:ai}(h:bY n sh.length=false):eG (n::r) sh=(3,[]):=by simp only[eG];rw[if_pos h]
theorem qh{n:ai}(h:bY n sh.length=true)(hs:bM n sh=none):eG (n::r) sh=(4,[]):=by simp only[eG];rw[if_neg Jb,hs]
theorem kP{n:ai}(h:bY n sh.length=true)(hs:bM n sh=some s)(hn:gW n=false):eG (n::r) sh=(5,[]):=by simp only[eG];rw[if_neg Jb,hs];simp only;rw[if_pos hn]
theorem iA{n:ai}(h:bY n sh.length=true)(hs:bM n sh=some s)(hn:gW n=true):eG (n::r) sh=eG r (sh++[s]):=by simp only[eG];rw[if_neg Jb,hs];simp only;rw[if_neg (by simp[hn])]
def jy(sv:aY):bJ where
 holds R w:=(eY sv.base 1 (aM sv.l)).holds R w/\∀u∈sv.l,(bn u).holds R w
 stable:=λhR hw h=>⟨(eY _ _ _).stable hR hw h.1,λu hu=>(bn u).stable hR hw (h.2 u hu)⟩
def lS(N:Nat)(l:List aj):bJ where
 holds R w:=∀u∈l,(J6 N u).holds R w
 stable:=λhR hw h u hu=>(J6 N u).stable hR hw (h u hu)
theorem wZ(N:Nat)(R:Nat->Prop)(w:World):(lS N []).holds R w:=λu hu=>by simp at hu
theorem kW{N:Nat}{l:List aj}{u:aj}{R:Nat->Prop}{w:World}(h:(lS N l).holds R w)(hu:(J6 N u).holds R w):(lS N (l++[u])).holds R w:=by
 intro v hv
 rcases List.mem_append.1 hv with hv|hv
 ·exact h v hv
 ·simp at hv;subst hv;exact hu
def qZ(w:World)(r:Int×List (List Int))(e:Ending)(w':World):Prop:=
 ∃(v:Value),e= .returned (.tuple #[v,.int .i64 r.1])/\Ext w w'/\(r.1≠0->v= .slice none 0 0)/\
  (r.1=0->∃sv:aY,v=sv.val/\sv.l.map (·.xs)=r.2/\(∀u∈sv.l,u.a_)/\(jy sv).holds (λb=>w.heap.size<=b/\b<w'.heap.size) w'/\sv.l.length<=sv.cap)
theorem mg{S:bJ}{w:World}{r:Int×List (List Int)}{k:Int}(hb:∀R w',S.holds R w'->(aH B.w0).holds R w')(hw0:B.w0=w)(hr:r=(k,[]))(hk:k≠0):jE B (.sI [.c (.slice none 0 0),ak k]) H S nx (qZ w r):=by
 subst hw0 hr
 exact dz λρ w' hw=>⟨_,rfl,aV hw hb,λ_=>rfl,λh=>absurd h hk⟩
theorem NY{S:bJ}{m:Nat}{w:World}{r:Int×List (List Int)}{us:List aj}(hb:∀R w',S.holds R w'->(aH B.w0).holds R w')(hs:∀R w',S.holds R w'->(lS B.w0.heap.size us).holds R w')(uW:∀u∈us,u.a_)(hw0:B.w0=w)(he:(i,bU.rows (aM us) 1 T)∈H)(hm:m=us.length)(hr:r=(0,us.map (·.xs))):
 jE B (.sI [.os i m,ak 0]) H S nx (qZ w r):=by
 subst hw0 hr hm
 refine dz λρ w' hw=>⟨_,rfl,aV hw hb,λh=>absurd rfl h,λ_=> ?_⟩
 have hn:=dF hw hb he
 obtain⟨base,cap,e1,h1⟩:=fw hn
 obtain⟨l',e2,F,_,_,hcap,_⟩:=hn
 have e3:cap=l'.cap:=by
  have:=e1.symm.trans e2
  simp only[Value.slice.injEq]at this
  exact this.2.2
 refine⟨⟨base,cap,us⟩,?_,rfl,uW,⟨h1,λu hu=>oh hw λR w'' h=>hs R w'' h u hu⟩,?_⟩
 ·rw[aR]at e1
  exact e1
 ·rw[aR]at hcap
  show us.length<=cap
  omega
theorem J_{cx:Cx}{f:FuncId}{args:List SV}{S:bJ}{K:SV->Heap->bJ->Nat->Prop}(xs:List Int)(hf:∀ar w,(callFunc f ar).run cx.P w= .ok (.enter f ar) w)(hfit:∀x∈xs,-9223372036854775808<=x/\x<=9223372036854775807)(hl:xs.length<=1000000)
 (hc:∀ρ w',dY cx.B ρ nx H S w'->Calls cx.P f (SV.d_ ρ args).toArray w' (λe w''=>∃v,e= .returned v/\Ext w' w''/\j_ w' w'' v 1 3 (ints xs)))
 (h:∀u:aj,u.xs=xs->u.a_->K (.c u.val) H (S.and (J6 cx.B.w0.heap.size u)) nx):aC cx f args H S nx K:=by
 refine gP hf aj.val bn (λu=>u.xs=xs/\u.a_) (λρ w' hw=>(hc ρ w' hw).mono ?_) (λu hu=>h u hu.1 hu.2)
 rintro e w'' ⟨v,rfl,he,hn⟩
 obtain⟨u,rfl,h1,h2,h3⟩:=tX hn hfit hl
 exact⟨u,⟨h1,h2⟩,rfl,he,h3⟩
theorem Gc(l:List aj)(u:aj):aM (l++[u])=aM l++[[u.val]]:=by simp[aM]
theorem Ka{ρ:Nat->SX.Loc}{S:bJ}{w:World}{N:Nat}{us:List aj}(hw:dY B ρ nx H S w)(he:(i,bU.rows (aM us) 1 T)∈H)(hS:∀R w',S.holds R w'->(lS N us).holds R w')(fP:∀u∈us,u.a_/\0<entries u.xs)(hl:us.length<=24):
 (⟨(ρ i).base,(ρ i).cap,us⟩:aY).ok w:=
 ⟨ed hw he,λu hu=>ae hw λR h=>bP (fP u hu).1 ((bn u).mono (hS R w h u hu) (λb hb=>hb.1)),hl⟩
section
variable {w w':World} {R:Nat->Prop} {n:ai} {us:List aj} {u:aj} {S:bJ} {N:Nat}
theorem YF(hn:n.ok w)(fP:∀u∈us,u.a_/\0<entries u.xs)(hu:u=n.shape\/u∈us):u.a_:=hu.elim (λh=>h▸hn.shape.a_) (λh=>(fP u h).1)
theorem alr(hn:n.ok w)(fP:∀u∈us,u.a_/\0<entries u.xs)(hu:u=n.shape\/u∈us)(h:((aH w).and (lS N us)).holds R w'):u.ok w':=
 hu.elim (λe=>e▸hn.shape.later h.1) (λe=>bP (fP u e).1 ((bn u).mono (h.2 u e) (λb hb=>hb.1)))
theorem als(hu:u.a_)(h:(S.and (J6 N u)).holds R w'):u.ok w':=bP hu ((bn u).mono h.2 (λb hb=>hb.1))
end
theorem EU{us:List aj}{v:aj}(fP:∀u∈us,u.a_/\0<entries u.xs)(h1:v.a_)(h2:0<entries v.xs):∀u∈us++[v],u.a_/\0<entries u.xs:=by
 intro u hu
 rcases List.mem_append.1 hu with hu|hu
 ·exact fP u hu
 ·simp at hu;subst hu;exact⟨h1,h2⟩
theorem w_(us:List aj)(v:aj):(i,bU.rows (aM (us++[v])) 1 T)∈(i,bU.rows (List.take us.length (aM us)++[[v.val]]) 1 T)::H:=by
 rw[Gc,List.take_of_length_le Pp]
 exact List.mem_cons_self
theorem pu(w:World)(g:bE)(hg:g.ok w):Calls Tryz.prog 24 #[g.val] w (qZ w (check g)):=by
 by_cases hc:g.l.length<1\/24<g.l.length\/g.out<0\/(g.l.length:Int)<=g.out
 ·have hs:check g=(3,[]):=by unfold check;rw[if_pos hc]
  rw[hs]
  refine fq Tryz.func24 [.agg [.c (.slice g.base g.l.length g.cap),ak g.out]] ?_
  (repeat' ((conv=>whnf)<;>first|refine aN ?_|refine ag ?_ ?_<;>intro _))
  all_goals exact mg (λ_ _ h=>h) rfl rfl aS
 ·have hs:check g=eG g.l []:=by unfold check;rw[if_neg hc]
  rw[hs]
  obtain⟨a,ha⟩:∃a,g.base=some a:=aI (j:=0) hg.rows Db
  refine fq Tryz.func24 [.agg [.c (.slice g.base g.l.length g.cap),ak g.out]] ?_
  (repeat' ((conv=>whnf)<;>first|refine aN ?_|refine ag ?_ ?_<;>intro _))
  refine Wp.loop (σ:=Nat×List aj) 2 (λ⟨k,us⟩=>[(34,.c (.slice g.base g.l.length g.cap)),(35,ak g.l.length),(36,ak k),(4,.os 1 k)]) (λ⟨_,us⟩=>[(1,.rows (aM us) 1 32)]) (λ⟨_,us⟩=>(aH w).and (lS w.heap.size us))
   (λ⟨k,us⟩=>k<=g.l.length/\us.length=k/\(∀u∈us,u.a_/\0<entries u.xs)/\eG g.l []=eG (g.l.drop k) (us.map (·.xs))) (λs=>g.l.length-s.1) (0,[]) [(1,none)] aS (λs=>⟨rfl,rfl⟩) ⟨by simp,rfl,by simp,rfl⟩ ⟨rfl,aU,⟨rfl,trivial⟩,λR w' h=>⟨h,wZ _ _ _⟩⟩ ?_
  rintro⟨k,us⟩ ⟨hk,yf,fP,he⟩
  by_cases hlt:k<g.l.length
  ·rw[drop_at hlt]at he
   have hn:=hg.each _ (List.getElem_mem hlt)
   have hsm:=hg.small _ (List.getElem_mem hlt)
   generalize hnk:g.l[k]=n at*
   have hrow:(bq g.l)[k]? =some n.cells:=by rw[bQ hlt,hnk]
   subst yf
   have hgs:∀s∈us.map (·.xs),0<entries s:=λs hs=>by obtain⟨u,hu,rfl⟩:=List.mem_map.1 hs;exact(fP u hu).2
   have hlm:(us.map (·.xs)).length=us.length:=List.length_map _
   (repeat' ((conv=>whnf)<;>first|(show bC ..;refine ax a us.length ha rfl hlt ?_)|(show iM ..;(refine dO (λR w' h=>by rw[<-ha];exact au h.1 hg.rows) _ hrow rfl ?_))|(show aC _ 58 ..;((refine fE (f:=58) Tryz.call58 _ (λρ w' hw=>ade w' n (ae hw λR h=>ai6) us.length ((SV.os 1 us.length).rf ρ)) ?_ ?_<;>intro hform)))|(show aC _ 59 ..;(refine mV (f:=59) (n:=n) (l:=us) (bM n (us.map λx:aj=>x.xs)) Tryz.call59 rfl (λρ w' hw=>Z5 w' n (ae hw λR h=>ai6) us.length ⟨(ρ 1).base,(ρ 1).cap,us⟩ (Ka hw (List.mem_cons_of_mem _ (List.mem_cons_of_mem _ List.mem_cons_self)) (λR w' h=>h.2) fP aa) (dH hform) (λs hs=>(fP s hs).2)) (λhr v=> ?_) (λu hr hu=> ?_) (λu hr hu=> ?_)))|(show aC _ 60 ..;((refine fE (f:=60) Tryz.call60 _ (λρ w' hw=>adh w' n (ae hw λR h=>ai6) hsm.data hsm.aG us.length ((SV.os 1 us.length).rf ρ)) ?_ ?_<;>intro YG)))|(show aC _ 32 ..;(refine J_ (f:=32) u.xs Tryz.call32 (by first|exact(YF hn fP hu).fits|exact hu.fits) (by first|exact(YF hn fP hu).few|exact hu.few) (λρ w' hw=>AL w' u (ae hw λR h=>by first|exact alr hn fP hu h|exact als hu h) (gJ (jF (n:=n) (sh:=us.map λx:aj=>x.xs) ahU hgs hr rfl)).1) (λv hv hvs=> ?_)))|(show sH ..;(refine fO Pp ?_))|(show fG ..;(refine b_ af2 ?_))|refine aN ?_|refine ag ?_ ?_<;>intro _))
   all_goals(conv=>whnf)
   ·exact mg (B:=⟨w,[]⟩) (λ_ _ h=>h.1) rfl (he.trans (qh Ew hr)) aS
   ·exact⟨(us.length+1,us++[v]),[(1,some 5)],⟨hlt,by simp,EU fP hvs (hv▸jF acL hgs hr rfl),he.trans ((iA Ew hr YG).trans (by rw[List.map_append,<-hv];rfl))⟩,by simp only;omega,rfl,aU,⟨w_ us v,trivial⟩,λR w' h=>⟨h.1.1,kW h.1.2 h.2⟩⟩
   ·exact mg (B:=⟨w,[]⟩) (λ_ _ h=>h.1) rfl (he.trans (kP Ew hr YG)) aS
   ·exact⟨(us.length+1,us++[v]),[(1,some 5)],⟨hlt,by simp,EU fP hvs (hv▸jF acL hgs hr rfl),he.trans ((iA Ew hr YG).trans (by rw[List.map_append,<-hv];rfl))⟩,by simp only;omega,rfl,aU,⟨w_ us v,trivial⟩,λR w' h=>⟨h.1.1.1,kW h.1.1.2 h.2⟩⟩
   ·exact mg (B:=⟨w,[]⟩) (λ_ _ h=>h.1.1) rfl (he.trans (kP Ew hr YG)) aS
   ·exact mg (B:=⟨w,[]⟩) (λ_ _ h=>h.1) rfl (he.trans (r_ Ew)) aS
  ·rw[List.drop_of_length_le aa]at he
   subst yf
   (repeat' ((conv=>whnf)<;>first|refine aN ?_|refine ag ?_ ?_<;>intro _))
   conv=>whnf
   exact NY (B:=⟨w,[]⟩) (λ_ _ h=>h.1) (λ_ _ h=>h.2) (λu hu=>(fP u hu).1) rfl List.mem_cons_self rfl he
end
section
variable {H:Heap} {S:bJ} {nx j:Nat} {l:List Bool} {w:World} {K:SV->Prop} {t:TypeId} {ti:TI} {ox oy:Operand}
def bools(l:List Bool):List (List Value):=l.map λb=>[.bool b]
theorem P5(l:List Bool):(bools l).length=l.length:=by simp[bools]
structure Cq where
 base:Option Addr
 cap:Nat
 bs:List Bool
def Cq.val(v:Cq):Value:= .slice v.base v.bs.length v.cap
def fM(v:Cq):bJ:=eY v.base 1 (bools v.bs)
def AO(w:World)(l:List Bool)(e:Ending)(w':World):Prop:=
 ∃u:Cq,(u.bs=l/\∃a,u.base=some a)/\e= .returned u.val/\Ext w w'/\(fM u).holds (λb=>w.heap.size<=b/\b<w'.heap.size) w'
theorem Kb{B:Base}{i m:Nat}{T:TypeId}(hb:∀R w',S.holds R w'->(aH B.w0).holds R w')(hw0:B.w0=w)(he:(i,bU.rows (bools l) 1 T)∈H)(hm:m=l.length)(hl:l≠[]):
 jE B (.os i m) H S nx (AO w l):=by
 subst hw0 hm
 refine dz λρ w' hw=> ?_
 have hn:=dF hw hb he
 obtain⟨base,cap,e1,h1⟩:=fw hn
 rw[P5]at e1
 refine⟨⟨base,cap,l⟩,⟨rfl,?_⟩,by rw[e1];rfl,aV hw hb,h1⟩
 rcases h1.2 with h|⟨b,off,h,_⟩
 ·exact absurd (by simpa[bools]using h) hl
 ·exact⟨_,h⟩
theorem bu{a:Addr}(hx:∀R w,S.holds R w->bf w (some a) 1 (bools l))(hj:j<l.length)(h:K (.c (.bool (l.getD j false)))):fu (a.add (j*1)) S K:=
 aW hx [.bool (l.getD j false)] (.bool (l.getD j false)) (by simp[bools,List.getD,hj]) rfl h
theorem bF{a:Addr}(p:Prop)[Decidable p](hx:∀R w,S.holds R w->bf w (some a) 1 (bools l))(hj:j<l.length)(he:l.getD j false=decide p)(h1:p->K (.c (.bool true)))(h2:¬p->K (.c (.bool false))):fu (a.add (j*1)) S K:=by
 refine bu hx hj ?_
 rw[he]
 by_cases hp:p
 ·rw[decide_eq_true hp];exact h1 hp
 ·rw[decide_eq_false hp];exact h2 hp
@[irreducible] def qj (k:Int):Option (List Bool):=
  if k=1 then some [false,false,true,true,false,false,false]
  else if k=2 then some [false,false,true,false,false,true,false]
  else if k=3 then some [true,false,false,false,false,true,true]
  else if k=4 then some [true,false,true,false,false,true,true]
  else if k=5 then some [true,false,false,false,true,false,false]
  else if k=6 then some [true,true,false,false,false,false,false]
  else if k=7 then some [true,false,false,false,false,true,false]
  else if k=8 then some [true,false,false,false,false,true,false]
  else if k=9 then some [true,false,true,false,false,false,false]
  else none
theorem rM(w:World)(k:Int)(l:List Bool)(hm:qj k=some l):Calls Tryz.prog 133 #[.int .i64 k] w (AO w l):=by
 unfold qj at hm
 refine fq Tryz.func133 [ak k] ?_
 (repeat' ((conv=>whnf)<;>first|refine aN ?_|refine ag ?_ ?_<;>intro _))
 all_goals(repeat(first|rw[if_pos aa]at hm|rw[if_neg aa]at hm))
 all_goals first
  |(cases hm;done)
  |(obtain rfl:=Option.some.inj hm;exact Kb (λ_ _ h=>h) rfl List.mem_cons_self rfl fC)
theorem adi(w:World)(k:Int)(hm:qj k=none):Calls Tryz.prog 133 #[.int .i64 k] w λe w'=>e= .returned (.slice none 0 0)/\Ext w w':=by
 unfold qj at hm
 refine fq Tryz.func133 [ak k] ?_
 (repeat' ((conv=>whnf)<;>first|refine aN ?_|refine ag ?_ ?_<;>intro _))
 all_goals(repeat(first|rw[if_pos aa]at hm|rw[if_neg aa]at hm))
 all_goals first
  |(cases hm;done)
  |exact bW (λ_ _ h=>h) (λ_=>rfl) rfl
def ZG(n:ai):List Bool:=[decide (n.a≠0),decide (n.b≠0),decide ((n.shape.xs.length:Int)>0),decide (n.lo≠0\/n.hi≠0),decide (n.size≠0),decide ((n.data.xs.length:Int)>0),decide ((n.aG.xs.length:Int)>0)]
theorem xg{p:Prop}[Decidable p]{K:Bool->Prop}(h:K (decide p)):dR p K:=by
 rw[zn]
 exact⟨λhp=>by rw[decide_eq_true hp]at h;exact h,λhp=>by rw[decide_eq_false hp]at h;exact h⟩
theorem XU(w:World)(n:ai):Calls Tryz.prog 134 #[.agg n.cells.toArray] w (AO w (ZG n)):=by
 refine fq Tryz.func134 [.agg (jM n)] ?_
 (repeat' ((conv=>whnf)<;>first|(show @dR _ _ _;(first|refine xg (p:=n.a≠0) ?_|refine xg (p:=n.b≠0) ?_|refine xg (p:=(n.shape.xs.length:Int)>0) ?_|refine xg (p:=n.size≠0) ?_|refine xg (p:=(n.data.xs.length:Int)>0) ?_|refine xg (p:=(n.aG.xs.length:Int)>0) ?_|refine bA aa ?_|refine cK aa ?_|(refine ag ?_ ?_<;>intro _)))|refine aN ?_))
 all_goals(conv=>whnf)
 all_goals refine Kb (B:=⟨w,[]⟩) (l:=ZG n) (T:=4) (λ_ _ h=>h) rfl ?_ rfl (by simp[ZG])
 all_goals(unfold ZG;(first|rw[decide_eq_true (p:=n.lo≠0\/n.hi≠0) aa]|rw[decide_eq_false (p:=n.lo≠0\/n.hi≠0) aa]);exact List.mem_cons_self)
theorem jD{cx:Cx}{f:FuncId}{args:List SV}{K:SV->Heap->bJ->Nat->Prop}(l:List Bool)(m:Nat)(hm:l.length=m)(hf:∀ar w,(callFunc f ar).run cx.P w= .ok (.enter f ar) w)
 (hc:∀ρ w',dY cx.B ρ nx H S w'->Calls cx.P f (SV.d_ ρ args).toArray w' (AO w' l))
 (h:∀(u:Cq) (a:Addr),u.bs=l->u.base=some a->u.bs.length=m->K (.c u.val) H (S.and ((fM u).past cx.B.w0.heap.size)) nx):aC cx f args H S nx K:=
 gP hf Cq.val fM (λu=>u.bs=l/\∃a,u.base=some a) (λρ w' hw=>hc ρ w' hw) (λu hu=>hu.2.elim λa ha=>h u a hu.1 ha (by rw[hu.1,hm]))
theorem aA{u:Cq}{a:Addr}{N:Nat}{R:Nat->Prop}(hl:u.bs=l)(ha:u.base=some a)(h:((fM u).past N).holds R w):bf w (some a) 1 (bools l):=by
 subst hl
 rw[<-ha];exact aO h
theorem tL{P:Program}(h:lN P t=some ti)(hk:ti.kind=1){base:Option Addr}{len cap:Nat}{a:Addr}(hb:base=some a)(hK:K (.c (.bool false))):
 l_ P (do eqGuard .eql t ox oy (.slice base len cap) (.slice none 0 0);binOp .eql t (.slice base len cap) (.slice none 0 0)) K:=by
 subst hb
 exact jP h hk hK
theorem BK{P:Program}(h:lN P t=some ti)(hk:ti.kind=1)(hK:K (.c (.bool true))):
 l_ P (do eqGuard .eql t ox oy (.slice none 0 0) (.slice none 0 0);binOp .eql t (.slice none 0 0) (.slice none 0 0)) K:=jP h hk hK
theorem qo{n:ai}{a b sh sp si da bi:Bool}:jT n a b sh sp si da bi=decide (¬((n.a≠0/\a=false)\/(n.b≠0/\b=false)\/((n.shape.xs.length:Int)>0/\sh=false)\/((n.lo≠0\/n.hi≠0)/\sp=false)\/(n.size≠0/\si=false)\/((n.data.xs.length:Int)>0/\da=false)\/((n.aG.xs.length:Int)>0/\bi=false))):=by
 unfold jT
 rw[Bool.eq_iff_iff]
 simp only[Bool.and_eq_true,Bool.or_eq_true,decide_eq_true_eq]
 cases a<;>cases b<;>cases sh<;>cases sp<;>cases si<;>cases da<;>cases bi<;>simp only[Bool.false_eq_true,Bool.true_eq_false,false_or,true_or,and_false,and_true,or_false,true_and,reduceCtorEq]<;>first|omega|simp
end
theorem Z6(w:World)(n:ai)(hn:n.ok w)(at_:Int)(hk:n.kind=1):
 Calls Tryz.prog 79 #[.agg n.cells.toArray,.int .i64 at_] w λe w'=>e= .returned (.bool (bY n at_))/\Ext w w':=by
 have hm:qj n.kind=some [false,false,true,true,false,false,false]:=by unfold qj;rw[hk];rfl
 obtain⟨a,hbase⟩:=lm hn.shape
 have mI:bY n at_=bY n at_:=rfl
 conv at mI=>rhs;unfold bY
 repeat(first|rw[if_pos aa]at mI|rw[if_neg aa]at mI)
 rw[qo]at mI
 simp only[jW]at mI
 refine fq Tryz.func79 [.agg (jM n),ak at_] ?_
 (repeat' ((conv=>whnf)<;>first|(show aC _ 133 ..;refine jD (f:=133) [false,false,true,true,false,false,false] 7 rfl Tryz.call133 (λρ w' hw=>rM w' n.kind [false,false,true,true,false,false,false] hm) (λm am hml jq hmn=> ?_))|refine Ro ?_|(refine Rp ?_;intro h ah lX hah hhn)|refine aZ ?_))
 refine Wp.rounds 8 ?_
 (repeat' ((conv=>whnf)<;>first|refine Rq ?_|refine Rs ?_|refine Rt ?_|(show fu ..;(first|(refine bF (j:=0) (n.a≠0) (λR w' h=>aA lX hah gG) (show 0<7 by decide) rfl ?_ ?_<;>intro _)|refine bu (j:=0) (λR w' h=>aA hml jq gH) (show 0<7 by decide) ?_|(refine bF (j:=1) (n.b≠0) (λR w' h=>aA lX hah gG) (show 1<7 by decide) rfl ?_ ?_<;>intro _)|refine bu (j:=1) (λR w' h=>aA hml jq gH) (show 1<7 by decide) ?_|(refine bF (j:=2) ((n.shape.xs.length:Int)>0) (λR w' h=>aA lX hah gG) (show 2<7 by decide) rfl ?_ ?_<;>intro _)|refine bu (j:=2) (λR w' h=>aA hml jq gH) (show 2<7 by decide) ?_|(refine bF (j:=3) (n.lo≠0\/n.hi≠0) (λR w' h=>aA lX hah gG) (show 3<7 by decide) rfl ?_ ?_<;>intro _)|refine bu (j:=3) (λR w' h=>aA hml jq gH) (show 3<7 by decide) ?_|(refine bF (j:=4) (n.size≠0) (λR w' h=>aA lX hah gG) (show 4<7 by decide) rfl ?_ ?_<;>intro _)|refine bu (j:=4) (λR w' h=>aA hml jq gH) (show 4<7 by decide) ?_|(refine bF (j:=5) ((n.data.xs.length:Int)>0) (λR w' h=>aA lX hah gG) (show 5<7 by decide) rfl ?_ ?_<;>intro _)|refine bu (j:=5) (λR w' h=>aA hml jq gH) (show 5<7 by decide) ?_|(refine bF (j:=6) ((n.aG.xs.length:Int)>0) (λR w' h=>aA lX hah gG) (show 6<7 by decide) rfl ?_ ?_<;>intro _)|refine bu (j:=6) (λR w' h=>aA hml jq gH) (show 6<7 by decide) ?_|refine bO (j:=0) (λR w' h=>hn.shape.at_ (hbase aa) R w' Mk) aa ?_))|refine aZ ?_|refine ag ?_ ?_<;>intro _))
 all_goals(conv=>whnf)
 all_goals refine aX (B:=⟨w,[]⟩) (S:=((aH w).and ((fM m).past w.heap.size)).and ((fM h).past w.heap.size)) (λ_ _ h=>h.1.1) rfl ?_
 all_goals rw[mI]
 all_goals simp only[Bool.and_eq_true,Bool.and_eq_false_iff,decide_eq_true_eq,decide_eq_false_iff_not,reduceCtorEq,and_false,and_true,or_false,false_or]
 all_goals first|omega|(simp;omega)
theorem Z7(w:World)(n:ai)(hn:n.ok w)(at_:Int)(hk:n.kind=2):
 Calls Tryz.prog 79 #[.agg n.cells.toArray,.int .i64 at_] w λe w'=>e= .returned (.bool (bY n at_))/\Ext w w':=by
 have hm:qj n.kind=some [false,false,true,false,false,true,false]:=by unfold qj;rw[hk];rfl
 obtain⟨a,hbase⟩:=lm hn.shape
 have mI:bY n at_=bY n at_:=rfl
 conv at mI=>rhs;unfold bY
 repeat(first|rw[if_pos aa]at mI|rw[if_neg aa]at mI)
 rw[qo]at mI
 simp only[jW]at mI
 refine fq Tryz.func79 [.agg (jM n),ak at_] ?_
 (repeat' ((conv=>whnf)<;>first|(show aC _ 133 ..;refine jD (f:=133) [false,false,true,false,false,true,false] 7 rfl Tryz.call133 (λρ w' hw=>rM w' n.kind [false,false,true,false,false,true,false] hm) (λm am hml jq hmn=> ?_))|refine Ro ?_|(refine Rp ?_;intro h ah lX hah hhn)|refine aZ ?_))
 refine Wp.rounds 8 ?_
 (repeat' ((conv=>whnf)<;>first|refine Rq ?_|refine Rs ?_|refine Rt ?_|(show fu ..;(first|(refine bF (j:=0) (n.a≠0) (λR w' h=>aA lX hah gG) (show 0<7 by decide) rfl ?_ ?_<;>intro _)|refine bu (j:=0) (λR w' h=>aA hml jq gH) (show 0<7 by decide) ?_|(refine bF (j:=1) (n.b≠0) (λR w' h=>aA lX hah gG) (show 1<7 by decide) rfl ?_ ?_<;>intro _)|refine bu (j:=1) (λR w' h=>aA hml jq gH) (show 1<7 by decide) ?_|(refine bF (j:=2) ((n.shape.xs.length:Int)>0) (λR w' h=>aA lX hah gG) (show 2<7 by decide) rfl ?_ ?_<;>intro _)|refine bu (j:=2) (λR w' h=>aA hml jq gH) (show 2<7 by decide) ?_|(refine bF (j:=3) (n.lo≠0\/n.hi≠0) (λR w' h=>aA lX hah gG) (show 3<7 by decide) rfl ?_ ?_<;>intro _)|refine bu (j:=3) (λR w' h=>aA hml jq gH) (show 3<7 by decide) ?_|(refine bF (j:=4) (n.size≠0) (λR w' h=>aA lX hah gG) (show 4<7 by decide) rfl ?_ ?_<;>intro _)|refine bu (j:=4) (λR w' h=>aA hml jq gH) (show 4<7 by decide) ?_|(refine bF (j:=5) ((n.data.xs.length:Int)>0) (λR w' h=>aA lX hah gG) (show 5<7 by decide) rfl ?_ ?_<;>intro _)|refine bu (j:=5) (λR w' h=>aA hml jq gH) (show 5<7 by decide) ?_|(refine bF (j:=6) ((n.aG.xs.length:Int)>0) (λR w' h=>aA lX hah gG) (show 6<7 by decide) rfl ?_ ?_<;>intro _)|refine bu (j:=6) (λR w' h=>aA hml jq gH) (show 6<7 by decide) ?_|refine bO (j:=0) (λR w' h=>hn.shape.at_ (hbase aa) R w' Mk) aa ?_))|refine aZ ?_|refine ag ?_ ?_<;>intro _))
 all_goals(conv=>whnf)
 all_goals refine aX (B:=⟨w,[]⟩) (S:=((aH w).and ((fM m).past w.heap.size)).and ((fM h).past w.heap.size)) (λ_ _ h=>h.1.1) rfl ?_
 all_goals rw[mI]
 all_goals simp only[Bool.and_eq_true,Bool.and_eq_false_iff,decide_eq_true_eq,decide_eq_false_iff_not,reduceCtorEq,and_false,and_true,or_false,false_or]
 all_goals first|omega|(simp;omega)
theorem Z8(w:World)(n:ai)(hn:n.ok w)(at_:Int)(hk:n.kind=3):
 Calls Tryz.prog 79 #[.agg n.cells.toArray,.int .i64 at_] w λe w'=>e= .returned (.bool (bY n at_))/\Ext w w':=by
 have hm:qj n.kind=some [true,false,false,false,false,true,true]:=by unfold qj;rw[hk];rfl
 obtain⟨a,hbase⟩:=lm hn.shape
 have mI:bY n at_=bY n at_:=rfl
 conv at mI=>rhs;unfold bY
 repeat(first|rw[if_pos aa]at mI|rw[if_neg aa]at mI)
 rw[qo]at mI
 simp only[jW]at mI
 refine fq Tryz.func79 [.agg (jM n),ak at_] ?_
 (repeat' ((conv=>whnf)<;>first|(show aC _ 133 ..;refine jD (f:=133) [true,false,false,false,false,true,true] 7 rfl Tryz.call133 (λρ w' hw=>rM w' n.kind [true,false,false,false,false,true,true] hm) (λm am hml jq hmn=> ?_))|refine Ro ?_|(refine Rp ?_;intro h ah lX hah hhn)|refine aZ ?_))
 refine Wp.rounds 8 ?_
 (repeat' ((conv=>whnf)<;>first|refine Rq ?_|refine Rs ?_|refine Rt ?_|(show fu ..;(first|(refine bF (j:=0) (n.a≠0) (λR w' h=>aA lX hah gG) (show 0<7 by decide) rfl ?_ ?_<;>intro _)|refine bu (j:=0) (λR w' h=>aA hml jq gH) (show 0<7 by decide) ?_|(refine bF (j:=1) (n.b≠0) (λR w' h=>aA lX hah gG) (show 1<7 by decide) rfl ?_ ?_<;>intro _)|refine bu (j:=1) (λR w' h=>aA hml jq gH) (show 1<7 by decide) ?_|(refine bF (j:=2) ((n.shape.xs.length:Int)>0) (λR w' h=>aA lX hah gG) (show 2<7 by decide) rfl ?_ ?_<;>intro _)|refine bu (j:=2) (λR w' h=>aA hml jq gH) (show 2<7 by decide) ?_|(refine bF (j:=3) (n.lo≠0\/n.hi≠0) (λR w' h=>aA lX hah gG) (show 3<7 by decide) rfl ?_ ?_<;>intro _)|refine bu (j:=3) (λR w' h=>aA hml jq gH) (show 3<7 by decide) ?_|(refine bF (j:=4) (n.size≠0) (λR w' h=>aA lX hah gG) (show 4<7 by decide) rfl ?_ ?_<;>intro _)|refine bu (j:=4) (λR w' h=>aA hml jq gH) (show 4<7 by decide) ?_|(refine bF (j:=5) ((n.data.xs.length:Int)>0) (λR w' h=>aA lX hah gG) (show 5<7 by decide) rfl ?_ ?_<;>intro _)|refine bu (j:=5) (λR w' h=>aA hml jq gH) (show 5<7 by decide) ?_|(refine bF (j:=6) ((n.aG.xs.length:Int)>0) (λR w' h=>aA lX hah gG) (show 6<7 by decide) rfl ?_ ?_<;>intro _)|refine bu (j:=6) (λR w' h=>aA hml jq gH) (show 6<7 by decide) ?_|refine bO (j:=0) (λR w' h=>hn.shape.at_ (hbase aa) R w' Mk) aa ?_))|refine aZ ?_|refine ag ?_ ?_<;>intro _))
 all_goals(conv=>whnf)
 all_goals refine aX (B:=⟨w,[]⟩) (S:=((aH w).and ((fM m).past w.heap.size)).and ((fM h).past w.heap.size)) (λ_ _ h=>h.1.1) rfl ?_
 all_goals rw[mI]
 all_goals simp only[Bool.and_eq_true,Bool.and_eq_false_iff,decide_eq_true_eq,decide_eq_false_iff_not,reduceCtorEq,and_false,and_true,or_false,false_or]
 all_goals first|omega|(simp;omega)
theorem Z9(w:World)(n:ai)(hn:n.ok w)(at_:Int)(hk:n.kind=5):
 Calls Tryz.prog 79 #[.agg n.cells.toArray,.int .i64 at_] w λe w'=>e= .returned (.bool (bY n at_))/\Ext w w':=by
 have hm:qj n.kind=some [true,false,false,false,true,false,false]:=by unfold qj;rw[hk];rfl
 obtain⟨a,hbase⟩:=lm hn.shape
 have mI:bY n at_=bY n at_:=rfl
 conv at mI=>rhs;unfold bY
 repeat(first|rw[if_pos aa]at mI|rw[if_neg aa]at mI)
 rw[qo]at mI
 simp only[jW]at mI
 refine fq Tryz.func79 [.agg (jM n),ak at_] ?_
 (repeat' ((conv=>whnf)<;>first|(show aC _ 133 ..;refine jD (f:=133) [true,false,false,false,true,false,false] 7 rfl Tryz.call133 (λρ w' hw=>rM w' n.kind [true,false,false,false,true,false,false] hm) (λm am hml jq hmn=> ?_))|refine Ro ?_|(refine Rp ?_;intro h ah lX hah hhn)|refine aZ ?_))
 refine Wp.rounds 8 ?_
 (repeat' ((conv=>whnf)<;>first|refine Rq ?_|refine Rs ?_|refine Rt ?_|(show fu ..;(first|(refine bF (j:=0) (n.a≠0) (λR w' h=>aA lX hah gG) (show 0<7 by decide) rfl ?_ ?_<;>intro _)|refine bu (j:=0) (λR w' h=>aA hml jq gH) (show 0<7 by decide) ?_|(refine bF (j:=1) (n.b≠0) (λR w' h=>aA lX hah gG) (show 1<7 by decide) rfl ?_ ?_<;>intro _)|refine bu (j:=1) (λR w' h=>aA hml jq gH) (show 1<7 by decide) ?_|(refine bF (j:=2) ((n.shape.xs.length:Int)>0) (λR w' h=>aA lX hah gG) (show 2<7 by decide) rfl ?_ ?_<;>intro _)|refine bu (j:=2) (λR w' h=>aA hml jq gH) (show 2<7 by decide) ?_|(refine bF (j:=3) (n.lo≠0\/n.hi≠0) (λR w' h=>aA lX hah gG) (show 3<7 by decide) rfl ?_ ?_<;>intro _)|refine bu (j:=3) (λR w' h=>aA hml jq gH) (show 3<7 by decide) ?_|(refine bF (j:=4) (n.size≠0) (λR w' h=>aA lX hah gG) (show 4<7 by decide) rfl ?_ ?_<;>intro _)|refine bu (j:=4) (λR w' h=>aA hml jq gH) (show 4<7 by decide) ?_|(refine bF (j:=5) ((n.data.xs.length:Int)>0) (λR w' h=>aA lX hah gG) (show 5<7 by decide) rfl ?_ ?_<;>intro _)|refine bu (j:=5) (λR w' h=>aA hml jq gH) (show 5<7 by decide) ?_|(refine bF (j:=6) ((n.aG.xs.length:Int)>0) (λR w' h=>aA lX hah gG) (show 6<7 by decide) rfl ?_ ?_<;>intro _)|refine bu (j:=6) (λR w' h=>aA hml jq gH) (show 6<7 by decide) ?_|refine bO (j:=0) (λR w' h=>hn.shape.at_ (hbase aa) R w' Mk) aa ?_))|refine aZ ?_|refine ag ?_ ?_<;>intro _))
 all_goals(conv=>whnf)
 all_goals refine aX (B:=⟨w,[]⟩) (S:=((aH w).and ((fM m).past w.heap.size)).and ((fM h).past w.heap.size)) (λ_ _ h=>h.1.1) rfl ?_
 all_goals rw[mI]
 all_goals simp only[Bool.and_eq_true,Bool.and_eq_false_iff,decide_eq_true_eq,decide_eq_false_iff_not,reduceCtorEq,and_false,and_true,or_false,false_or]
 all_goals first|omega|(simp;omega)
theorem Z_(w:World)(n:ai)(hn:n.ok w)(at_:Int)(hk:n.kind=6):
 Calls Tryz.prog 79 #[.agg n.cells.toArray,.int .i64 at_] w λe w'=>e= .returned (.bool (bY n at_))/\Ext w w':=by
 have hm:qj n.kind=some [true,true,false,false,false,false,false]:=by unfold qj;rw[hk];rfl
 obtain⟨a,hbase⟩:=lm hn.shape
 have mI:bY n at_=bY n at_:=rfl
 conv at mI=>rhs;unfold bY
 repeat(first|rw[if_pos aa]at mI|rw[if_neg aa]at mI)
 rw[qo]at mI
 simp only[jW]at mI
 refine fq Tryz.func79 [.agg (jM n),ak at_] ?_
 (repeat' ((conv=>whnf)<;>first|(show aC _ 133 ..;refine jD (f:=133) [true,true,false,false,false,false,false] 7 rfl Tryz.call133 (λρ w' hw=>rM w' n.kind [true,true,false,false,false,false,false] hm) (λm am hml jq hmn=> ?_))|refine Ro ?_|(refine Rp ?_;intro h ah lX hah hhn)|refine aZ ?_))
 refine Wp.rounds 8 ?_
 (repeat' ((conv=>whnf)<;>first|refine Rq ?_|refine Rs ?_|refine Rt ?_|(show fu ..;(first|(refine bF (j:=0) (n.a≠0) (λR w' h=>aA lX hah gG) (show 0<7 by decide) rfl ?_ ?_<;>intro _)|refine bu (j:=0) (λR w' h=>aA hml jq gH) (show 0<7 by decide) ?_|(refine bF (j:=1) (n.b≠0) (λR w' h=>aA lX hah gG) (show 1<7 by decide) rfl ?_ ?_<;>intro _)|refine bu (j:=1) (λR w' h=>aA hml jq gH) (show 1<7 by decide) ?_|(refine bF (j:=2) ((n.shape.xs.length:Int)>0) (λR w' h=>aA lX hah gG) (show 2<7 by decide) rfl ?_ ?_<;>intro _)|refine bu (j:=2) (λR w' h=>aA hml jq gH) (show 2<7 by decide) ?_|(refine bF (j:=3) (n.lo≠0\/n.hi≠0) (λR w' h=>aA lX hah gG) (show 3<7 by decide) rfl ?_ ?_<;>intro _)|refine bu (j:=3) (λR w' h=>aA hml jq gH) (show 3<7 by decide) ?_|(refine bF (j:=4) (n.size≠0) (λR w' h=>aA lX hah gG) (show 4<7 by decide) rfl ?_ ?_<;>intro _)|refine bu (j:=4) (λR w' h=>aA hml jq gH) (show 4<7 by decide) ?_|(refine bF (j:=5) ((n.data.xs.length:Int)>0) (λR w' h=>aA lX hah gG) (show 5<7 by decide) rfl ?_ ?_<;>intro _)|refine bu (j:=5) (λR w' h=>aA hml jq gH) (show 5<7 by decide) ?_|(refine bF (j:=6) ((n.aG.xs.length:Int)>0) (λR w' h=>aA lX hah gG) (show 6<7 by decide) rfl ?_ ?_<;>intro _)|refine bu (j:=6) (λR w' h=>aA hml jq gH) (show 6<7 by decide) ?_|refine bO (j:=0) (λR w' h=>hn.shape.at_ (hbase aa) R w' Mk) aa ?_))|refine aZ ?_|refine ag ?_ ?_<;>intro _))
 all_goals(conv=>whnf)
 all_goals refine aX (B:=⟨w,[]⟩) (S:=((aH w).and ((fM m).past w.heap.size)).and ((fM h).past w.heap.size)) (λ_ _ h=>h.1.1) rfl ?_
 all_goals rw[mI]
 all_goals simp only[Bool.and_eq_true,Bool.and_eq_false_iff,decide_eq_true_eq,decide_eq_false_iff_not,reduceCtorEq,and_false,and_true,or_false,false_or]
 all_goals first|omega|(simp;omega)
theorem aaa(w:World)(n:ai)(hn:n.ok w)(at_:Int)(hk:n.kind=7):
 Calls Tryz.prog 79 #[.agg n.cells.toArray,.int .i64 at_] w λe w'=>e= .returned (.bool (bY n at_))/\Ext w w':=by
 have hm:qj n.kind=some [true,false,false,false,false,true,false]:=by unfold qj;rw[hk];rfl
 obtain⟨a,hbase⟩:=lm hn.shape
 have mI:bY n at_=bY n at_:=rfl
 conv at mI=>rhs;unfold bY
 repeat(first|rw[if_pos aa]at mI|rw[if_neg aa]at mI)
 rw[qo]at mI
 simp only[jW]at mI
 refine fq Tryz.func79 [.agg (jM n),ak at_] ?_
 (repeat' ((conv=>whnf)<;>first|(refine akz ?_;intro m am hml jq hmn)|refine Ro ?_|(refine Rp ?_;intro h ah lX hah hhn)|refine aZ ?_))
 refine Wp.rounds 8 ?_
 (repeat' ((conv=>whnf)<;>first|refine Rq ?_|refine Rs ?_|refine Rt ?_|(show fu ..;(first|(refine bF (j:=0) (n.a≠0) (λR w' h=>aA lX hah gG) (show 0<7 by decide) rfl ?_ ?_<;>intro _)|refine bu (j:=0) (λR w' h=>aA hml jq gH) (show 0<7 by decide) ?_|(refine bF (j:=1) (n.b≠0) (λR w' h=>aA lX hah gG) (show 1<7 by decide) rfl ?_ ?_<;>intro _)|refine bu (j:=1) (λR w' h=>aA hml jq gH) (show 1<7 by decide) ?_|(refine bF (j:=2) ((n.shape.xs.length:Int)>0) (λR w' h=>aA lX hah gG) (show 2<7 by decide) rfl ?_ ?_<;>intro _)|refine bu (j:=2) (λR w' h=>aA hml jq gH) (show 2<7 by decide) ?_|(refine bF (j:=3) (n.lo≠0\/n.hi≠0) (λR w' h=>aA lX hah gG) (show 3<7 by decide) rfl ?_ ?_<;>intro _)|refine bu (j:=3) (λR w' h=>aA hml jq gH) (show 3<7 by decide) ?_|(refine bF (j:=4) (n.size≠0) (λR w' h=>aA lX hah gG) (show 4<7 by decide) rfl ?_ ?_<;>intro _)|refine bu (j:=4) (λR w' h=>aA hml jq gH) (show 4<7 by decide) ?_|(refine bF (j:=5) ((n.data.xs.length:Int)>0) (λR w' h=>aA lX hah gG) (show 5<7 by decide) rfl ?_ ?_<;>intro _)|refine bu (j:=5) (λR w' h=>aA hml jq gH) (show 5<7 by decide) ?_|(refine bF (j:=6) ((n.aG.xs.length:Int)>0) (λR w' h=>aA lX hah gG) (show 6<7 by decide) rfl ?_ ?_<;>intro _)|refine bu (j:=6) (λR w' h=>aA hml jq gH) (show 6<7 by decide) ?_|refine bO (j:=0) (λR w' h=>hn.shape.at_ (hbase aa) R w' Mk) aa ?_))|refine aZ ?_|refine ag ?_ ?_<;>intro _))
 all_goals(conv=>whnf)
 all_goals refine aX (B:=⟨w,[]⟩) (S:=((aH w).and ((fM m).past w.heap.size)).and ((fM h).past w.heap.size)) (λ_ _ h=>h.1.1) rfl ?_
 all_goals rw[mI]
 all_goals simp only[Bool.and_eq_true,Bool.and_eq_false_iff,decide_eq_true_eq,decide_eq_false_iff_not,reduceCtorEq,and_false,and_true,or_false,false_or]
 all_goals first|omega|(simp;omega)
theorem aab(w:World)(n:ai)(hn:n.ok w)(at_:Int)(hk:n.kind=8):
 Calls Tryz.prog 79 #[.agg n.cells.toArray,.int .i64 at_] w λe w'=>e= .returned (.bool (bY n at_))/\Ext w w':=by
 have hm:qj n.kind=some [true,false,false,false,false,true,false]:=by unfold qj;rw[hk];rfl
 obtain⟨a,hbase⟩:=lm hn.shape
 have mI:bY n at_=bY n at_:=rfl
 conv at mI=>rhs;unfold bY
 repeat(first|rw[if_pos aa]at mI|rw[if_neg aa]at mI)
 rw[qo]at mI
 simp only[jW]at mI
 refine fq Tryz.func79 [.agg (jM n),ak at_] ?_
 (repeat' ((conv=>whnf)<;>first|(refine akz ?_;intro m am hml jq hmn)|refine Ro ?_|(refine Rp ?_;intro h ah lX hah hhn)|refine aZ ?_))
 refine Wp.rounds 8 ?_
 (repeat' ((conv=>whnf)<;>first|refine Rq ?_|refine Rs ?_|refine Rt ?_|(show fu ..;(first|(refine bF (j:=0) (n.a≠0) (λR w' h=>aA lX hah gG) (show 0<7 by decide) rfl ?_ ?_<;>intro _)|refine bu (j:=0) (λR w' h=>aA hml jq gH) (show 0<7 by decide) ?_|(refine bF (j:=1) (n.b≠0) (λR w' h=>aA lX hah gG) (show 1<7 by decide) rfl ?_ ?_<;>intro _)|refine bu (j:=1) (λR w' h=>aA hml jq gH) (show 1<7 by decide) ?_|(refine bF (j:=2) ((n.shape.xs.length:Int)>0) (λR w' h=>aA lX hah gG) (show 2<7 by decide) rfl ?_ ?_<;>intro _)|refine bu (j:=2) (λR w' h=>aA hml jq gH) (show 2<7 by decide) ?_|(refine bF (j:=3) (n.lo≠0\/n.hi≠0) (λR w' h=>aA lX hah gG) (show 3<7 by decide) rfl ?_ ?_<;>intro _)|refine bu (j:=3) (λR w' h=>aA hml jq gH) (show 3<7 by decide) ?_|(refine bF (j:=4) (n.size≠0) (λR w' h=>aA lX hah gG) (show 4<7 by decide) rfl ?_ ?_<;>intro _)|refine bu (j:=4) (λR w' h=>aA hml jq gH) (show 4<7 by decide) ?_|(refine bF (j:=5) ((n.data.xs.length:Int)>0) (λR w' h=>aA lX hah gG) (show 5<7 by decide) rfl ?_ ?_<;>intro _)|refine bu (j:=5) (λR w' h=>aA hml jq gH) (show 5<7 by decide) ?_|(refine bF (j:=6) ((n.aG.xs.length:Int)>0) (λR w' h=>aA lX hah gG) (show 6<7 by decide) rfl ?_ ?_<;>intro _)|refine bu (j:=6) (λR w' h=>aA hml jq gH) (show 6<7 by decide) ?_|refine bO (j:=0) (λR w' h=>hn.shape.at_ (hbase aa) R w' Mk) aa ?_))|refine aZ ?_|refine ag ?_ ?_<;>intro _))
 all_goals(conv=>whnf)
 all_goals refine aX (B:=⟨w,[]⟩) (S:=((aH w).and ((fM m).past w.heap.size)).and ((fM h).past w.heap.size)) (λ_ _ h=>h.1.1) rfl ?_
 all_goals rw[mI]
 all_goals simp only[Bool.and_eq_true,Bool.and_eq_false_iff,decide_eq_true_eq,decide_eq_false_iff_not,reduceCtorEq,and_false,and_true,or_false,false_or]
 all_goals first|omega|(simp;omega)
theorem aac(w:World)(n:ai)(hn:n.ok w)(at_:Int)(hk:n.kind=9):
 Calls Tryz.prog 79 #[.agg n.cells.toArray,.int .i64 at_] w λe w'=>e= .returned (.bool (bY n at_))/\Ext w w':=by
 have hm:qj n.kind=some [true,false,true,false,false,false,false]:=by unfold qj;rw[hk];rfl
 obtain⟨a,hbase⟩:=lm hn.shape
 have mI:bY n at_=bY n at_:=rfl
 conv at mI=>rhs;unfold bY
 repeat(first|rw[if_pos aa]at mI|rw[if_neg aa]at mI)
 rw[qo]at mI
 simp only[jW]at mI
 refine fq Tryz.func79 [.agg (jM n),ak at_] ?_
 (repeat' ((conv=>whnf)<;>first|(show aC _ 133 ..;refine jD (f:=133) [true,false,true,false,false,false,false] 7 rfl Tryz.call133 (λρ w' hw=>rM w' n.kind [true,false,true,false,false,false,false] hm) (λm am hml jq hmn=> ?_))|refine Ro ?_|(refine Rp ?_;intro h ah lX hah hhn)|refine aZ ?_))
 refine Wp.rounds 8 ?_
 (repeat' ((conv=>whnf)<;>first|refine Rq ?_|refine Rs ?_|refine Rt ?_|(show fu ..;(first|(refine bF (j:=0) (n.a≠0) (λR w' h=>aA lX hah gG) (show 0<7 by decide) rfl ?_ ?_<;>intro _)|refine bu (j:=0) (λR w' h=>aA hml jq gH) (show 0<7 by decide) ?_|(refine bF (j:=1) (n.b≠0) (λR w' h=>aA lX hah gG) (show 1<7 by decide) rfl ?_ ?_<;>intro _)|refine bu (j:=1) (λR w' h=>aA hml jq gH) (show 1<7 by decide) ?_|(refine bF (j:=2) ((n.shape.xs.length:Int)>0) (λR w' h=>aA lX hah gG) (show 2<7 by decide) rfl ?_ ?_<;>intro _)|refine bu (j:=2) (λR w' h=>aA hml jq gH) (show 2<7 by decide) ?_|(refine bF (j:=3) (n.lo≠0\/n.hi≠0) (λR w' h=>aA lX hah gG) (show 3<7 by decide) rfl ?_ ?_<;>intro _)|refine bu (j:=3) (λR w' h=>aA hml jq gH) (show 3<7 by decide) ?_|(refine bF (j:=4) (n.size≠0) (λR w' h=>aA lX hah gG) (show 4<7 by decide) rfl ?_ ?_<;>intro _)|refine bu (j:=4) (λR w' h=>aA hml jq gH) (show 4<7 by decide) ?_|(refine bF (j:=5) ((n.data.xs.length:Int)>0) (λR w' h=>aA lX hah gG) (show 5<7 by decide) rfl ?_ ?_<;>intro _)|refine bu (j:=5) (λR w' h=>aA hml jq gH) (show 5<7 by decide) ?_|(refine bF (j:=6) ((n.aG.xs.length:Int)>0) (λR w' h=>aA lX hah gG) (show 6<7 by decide) rfl ?_ ?_<;>intro _)|refine bu (j:=6) (λR w' h=>aA hml jq gH) (show 6<7 by decide) ?_|refine bO (j:=0) (λR w' h=>hn.shape.at_ (hbase aa) R w' Mk) aa ?_))|refine aZ ?_|refine ag ?_ ?_<;>intro _))
 all_goals(conv=>whnf)
 all_goals refine aX (B:=⟨w,[]⟩) (S:=((aH w).and ((fM m).past w.heap.size)).and ((fM h).past w.heap.size)) (λ_ _ h=>h.1.1) rfl ?_
 all_goals rw[mI]
 all_goals simp only[Bool.and_eq_true,Bool.and_eq_false_iff,decide_eq_true_eq,decide_eq_false_iff_not,reduceCtorEq,and_false,and_true,or_false,false_or]
 all_goals first|omega|(simp;omega)
theorem aad(w:World)(n:ai)(hn:n.ok w)(at_:Int)(hk:n.kind=4):
 Calls Tryz.prog 79 #[.agg n.cells.toArray,.int .i64 at_] w λe w'=>e= .returned (.bool (bY n at_))/\Ext w w':=by
 have hm:qj n.kind=some [true,false,true,false,false,true,true]:=by unfold qj;rw[hk];rfl
 obtain⟨a,hbase⟩:=lm hn.shape
 have mI:bY n at_=bY n at_:=rfl
 conv at mI=>rhs;unfold bY
 repeat(first|rw[if_pos aa]at mI|rw[if_neg aa]at mI)
 rw[qo]at mI
 simp only[jW]at mI
 have hK4:n.shape.xs.length=4->iO n.shape.xs=nI 1 n.shape.xs:=λh=>by unfold iO;rw[if_pos h]
 have hK0:n.shape.xs.length≠4->iO n.shape.xs=0:=λh=>by unfold iO;rw[if_neg h]
 refine fq Tryz.func79 [.agg (jM n),ak at_] ?_
 (repeat' ((conv=>whnf)<;>first|(refine akA ?_;intro m am hml jq hmn)|(show l_ ..;(first|refine tL (ti 165 rfl) rfl jq ?_))|(refine akB ?_;intro h ah lX hah hhn)|refine aiO ?_|(show fu ..;(first|(refine bF (j:=0) (n.a≠0) (λR w' h=>aA lX hah gG) (show 0<7 by decide) rfl ?_ ?_<;>intro _)|refine bu (j:=0) (λR w' h=>aA hml jq gH) (show 0<7 by decide) ?_|(refine bF (j:=1) (n.b≠0) (λR w' h=>aA lX hah gG) (show 1<7 by decide) rfl ?_ ?_<;>intro _)|refine bu (j:=1) (λR w' h=>aA hml jq gH) (show 1<7 by decide) ?_|(refine bF (j:=2) ((n.shape.xs.length:Int)>0) (λR w' h=>aA lX hah gG) (show 2<7 by decide) rfl ?_ ?_<;>intro _)|refine bu (j:=2) (λR w' h=>aA hml jq gH) (show 2<7 by decide) ?_|(refine bF (j:=3) (n.lo≠0\/n.hi≠0) (λR w' h=>aA lX hah gG) (show 3<7 by decide) rfl ?_ ?_<;>intro _)|refine bu (j:=3) (λR w' h=>aA hml jq gH) (show 3<7 by decide) ?_|(refine bF (j:=4) (n.size≠0) (λR w' h=>aA lX hah gG) (show 4<7 by decide) rfl ?_ ?_<;>intro _)|refine bu (j:=4) (λR w' h=>aA hml jq gH) (show 4<7 by decide) ?_|(refine bF (j:=5) ((n.data.xs.length:Int)>0) (λR w' h=>aA lX hah gG) (show 5<7 by decide) rfl ?_ ?_<;>intro _)|refine bu (j:=5) (λR w' h=>aA hml jq gH) (show 5<7 by decide) ?_|(refine bF (j:=6) ((n.aG.xs.length:Int)>0) (λR w' h=>aA lX hah gG) (show 6<7 by decide) rfl ?_ ?_<;>intro _)|refine bu (j:=6) (λR w' h=>aA hml jq gH) (show 6<7 by decide) ?_|refine bO (j:=0) (λR w' h=>hn.shape.at_ (hbase aa) R w' Mk) aa ?_))|refine aZ ?_|refine ag ?_ ?_<;>intro _))
 refine Wp.rounds 8 ?_
 (repeat' ((conv=>whnf)<;>first|(refine akA ?_;intro m am hml jq hmn)|(show l_ ..;(first|refine tL (ti 165 rfl) rfl jq ?_))|(refine akB ?_;intro h ah lX hah hhn)|refine aiO ?_|(show fu ..;(first|(refine bF (j:=0) (n.a≠0) (λR w' h=>aA lX hah gG) (show 0<7 by decide) rfl ?_ ?_<;>intro _)|refine bu (j:=0) (λR w' h=>aA hml jq gH) (show 0<7 by decide) ?_|(refine bF (j:=1) (n.b≠0) (λR w' h=>aA lX hah gG) (show 1<7 by decide) rfl ?_ ?_<;>intro _)|refine bu (j:=1) (λR w' h=>aA hml jq gH) (show 1<7 by decide) ?_|(refine bF (j:=2) ((n.shape.xs.length:Int)>0) (λR w' h=>aA lX hah gG) (show 2<7 by decide) rfl ?_ ?_<;>intro _)|refine bu (j:=2) (λR w' h=>aA hml jq gH) (show 2<7 by decide) ?_|(refine bF (j:=3) (n.lo≠0\/n.hi≠0) (λR w' h=>aA lX hah gG) (show 3<7 by decide) rfl ?_ ?_<;>intro _)|refine bu (j:=3) (λR w' h=>aA hml jq gH) (show 3<7 by decide) ?_|(refine bF (j:=4) (n.size≠0) (λR w' h=>aA lX hah gG) (show 4<7 by decide) rfl ?_ ?_<;>intro _)|refine bu (j:=4) (λR w' h=>aA hml jq gH) (show 4<7 by decide) ?_|(refine bF (j:=5) ((n.data.xs.length:Int)>0) (λR w' h=>aA lX hah gG) (show 5<7 by decide) rfl ?_ ?_<;>intro _)|refine bu (j:=5) (λR w' h=>aA hml jq gH) (show 5<7 by decide) ?_|(refine bF (j:=6) ((n.aG.xs.length:Int)>0) (λR w' h=>aA lX hah gG) (show 6<7 by decide) rfl ?_ ?_<;>intro _)|refine bu (j:=6) (λR w' h=>aA hml jq gH) (show 6<7 by decide) ?_|refine bO (j:=0) (λR w' h=>hn.shape.at_ (hbase aa) R w' Mk) aa ?_))|refine aZ ?_|refine ag ?_ ?_<;>intro _))
 all_goals first
  |(refine Wp.loop (σ:=Nat×Int) 1 (λ⟨k,p⟩=>[(106,.c n.shape.val),(107,ak n.shape.xs.length),(108,ak k),(8,ak p),(2,.lp 0 0 0 0)]) (λ_=>[(0,.box (jM n) 41)]) (λ_=>((aH w).and ((fM m).past w.heap.size)).and ((fM h).past w.heap.size))
     (λs=>s.1<=4/\1<=s.2/\s.2<=64^s.1/\nI 1 n.shape.xs=nI s.2 (n.shape.xs.drop s.1)) (λs=>4-s.1) (0,1) [] (Nat.le_refl _) (λs=>⟨rfl,rfl⟩) ⟨by simp,by simp,by simp,rfl⟩ ⟨rfl,aU,⟨List.mem_cons_self,trivial⟩,λ_ _ h=>h⟩ ?_
    rintro⟨k,p⟩ ⟨hk4,h1,h64,he⟩
    simp only at hk4 h1 h64 he
    by_cases hlt:k<n.shape.xs.length
    ·rw[drop_at hlt]at he
     simp only[nI]at he
     have hb:1<=n.shape.xs[k]->n.shape.xs[k]<=64->1<=p*n.shape.xs[k]/\p*n.shape.xs[k]<=64^(k+1)/\p*n.shape.xs[k]<=16777216:=λg1 g2=>by
      have g3:p*n.shape.xs[k]<=64^k*64:=Int.mul_le_mul h64 g2 aa aa
      have g4:p*1<=p*n.shape.xs[k]:=Int.mul_le_mul_of_nonneg_left g1 aa
      have g5:(64:Int)^k*64=64^(k+1):=(Int.pow_succ 64 k).symm
      have g6:(64:Int)^(k+1)<=16777216:=by
       have:k=0\/k=1\/k=2\/k=3:=by omega
       rcases this with rfl|rfl|rfl|rfl<;>decide
      omega
     have hbad:(n.shape.xs[k]<1\/n.shape.xs[k]>64)->iO n.shape.xs=0:=λg=>by rw[hK4 aa,he,if_pos g]
     (repeat' ((conv=>whnf)<;>first|refine ax a k (hbase aa) rfl hlt ?_|(show fu ..;refine aW (λR w' h=>hn.shape.at_ (hbase aa) R w' h.1.1) _ _ (d9 hlt) rfl ?_)|refine wrap_i64 ZN ZN ?_|refine aZ ?_|refine ag ?_ ?_<;>intro _))
     ·conv=>whnf
      refine aX (B:=⟨w,[]⟩) (S:=((aH w).and ((fM m).past w.heap.size)).and ((fM h).past w.heap.size)) (λ_ _ h=>h.1.1) rfl ?_
      rw[mI]
      simp only[Bool.and_eq_true,Bool.and_eq_false_iff,decide_eq_true_eq,decide_eq_false_iff_not,reduceCtorEq,and_false,and_true,or_false,false_or]
      omega
     ·conv=>whnf
      refine aX (B:=⟨w,[]⟩) (S:=((aH w).and ((fM m).past w.heap.size)).and ((fM h).past w.heap.size)) (λ_ _ h=>h.1.1) rfl ?_
      rw[mI]
      simp only[Bool.and_eq_true,Bool.and_eq_false_iff,decide_eq_true_eq,decide_eq_false_iff_not,reduceCtorEq,and_false,and_true,or_false,false_or]
      omega
     ·rw[if_neg aa]at he
      have:=hb aa aa
      exact⟨(k+1,p*n.shape.xs[k]),[],⟨by simp only;omega,this.1,this.2.1,he⟩,by simp only;omega,rfl,aU,⟨List.mem_cons_self,trivial⟩,λ_ _ h=>h⟩
    ·have hkl:n.shape.xs.drop k=[]:=List.drop_of_length_le aa
     rw[hkl]at he
     have hp:iO n.shape.xs=p:=by rw[hK4 aa,he];rfl
     (repeat' ((conv=>whnf)<;>first|refine aiO ?_|(show fu ..;refine bO (j:=0) (λR w' h=>hn.shape.at_ (hbase aa) R w' h.1.1) aa ?_)|refine aZ ?_|refine ag ?_ ?_<;>intro _))
     all_goals(conv=>whnf)
     all_goals refine aX (B:=⟨w,[]⟩) (S:=((aH w).and ((fM m).past w.heap.size)).and ((fM h).past w.heap.size)) (λ_ _ h=>h.1.1) rfl ?_
     all_goals rw[mI]
     all_goals simp only[Bool.and_eq_true,Bool.and_eq_false_iff,decide_eq_true_eq,decide_eq_false_iff_not,reduceCtorEq,and_false,and_true,or_false,false_or]
     all_goals omega)
  |(conv=>whnf
    refine aX (B:=⟨w,[]⟩) (S:=((aH w).and ((fM m).past w.heap.size)).and ((fM h).past w.heap.size)) (λ_ _ h=>h.1.1) rfl ?_
    rw[mI]
    simp only[Bool.and_eq_true,Bool.and_eq_false_iff,decide_eq_true_eq,decide_eq_false_iff_not,reduceCtorEq,and_false,and_true,or_false,false_or]
    first|omega|(simp;omega))
theorem P6(w:World)(n:ai)(at_:Int)(hm:qj n.kind=none):
 Calls Tryz.prog 79 #[.agg n.cells.toArray,.int .i64 at_] w λe w'=>e= .returned (.bool (bY n at_))/\Ext w w':=by
 have mI:bY n at_=false:=by
  unfold qj at hm
  unfold bY
  have h1:n.kind≠1:=λh=>by rw[if_pos h]at hm;cases hm
  rw[if_neg h1]at hm
  have h2:n.kind≠2:=λh=>by rw[if_pos h]at hm;cases hm
  rw[if_neg h2]at hm
  have h3:n.kind≠3:=λh=>by rw[if_pos h]at hm;cases hm
  rw[if_neg h3]at hm
  have h4:n.kind≠4:=λh=>by rw[if_pos h]at hm;cases hm
  rw[if_neg h4]at hm
  have h5:n.kind≠5:=λh=>by rw[if_pos h]at hm;cases hm
  rw[if_neg h5]at hm
  have h6:n.kind≠6:=λh=>by rw[if_pos h]at hm;cases hm
  rw[if_neg h6]at hm
  have h7:n.kind≠7:=λh=>by rw[if_pos h]at hm;cases hm
  rw[if_neg h7]at hm
  have h8:n.kind≠8:=λh=>by rw[if_pos h]at hm;cases hm
  rw[if_neg h8]at hm
  have h9:n.kind≠9:=λh=>by rw[if_pos h]at hm;cases hm
  rw[if_neg h1,if_neg h2,if_neg h3,if_neg h4,if_neg h5,if_neg h6,if_neg h7,if_neg h8,if_neg h9]
 refine fq Tryz.func79 [.agg (jM n),ak at_] ?_
 (repeat' ((conv=>whnf)<;>first|(show aC _ 133 ..;refine aJ (f:=133) Tryz.call133 _ (λρ w' hw=>adi w' n.kind hm) ?_)|(show l_ ..;refine BK (ti 165 rfl) rfl ?_)|refine aZ ?_))
 exact aX (λ_ _ h=>h) rfl mI
theorem SA(w:World)(n:ai)(hn:n.ok w)(at_:Int):
 Calls Tryz.prog 79 #[.agg n.cells.toArray,.int .i64 at_] w λe w'=>e= .returned (.bool (bY n at_))/\Ext w w':=by
 by_cases h1:n.kind=1
 ·exact Z6 w n hn at_ h1
 by_cases h2:n.kind=2
 ·exact Z7 w n hn at_ h2
 by_cases h3:n.kind=3
 ·exact Z8 w n hn at_ h3
 by_cases h4:n.kind=4
 ·exact aad w n hn at_ h4
 by_cases h5:n.kind=5
 ·exact Z9 w n hn at_ h5
 by_cases h6:n.kind=6
 ·exact Z_ w n hn at_ h6
 by_cases h7:n.kind=7
 ·exact aaa w n hn at_ h7
 by_cases h8:n.kind=8
 ·exact aab w n hn at_ h8
 by_cases h9:n.kind=9
 ·exact aac w n hn at_ h9
 ·exact P6 w n at_ (by unfold qj;simp only[h1,h2,h3,h4,h5,h6,h7,h8,h9,if_false])
end Go.Proofs.YtgndjjdeopfdkaaGreat
