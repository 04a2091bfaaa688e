import Derived.Test.YtgndjjdeopfdkaaGreatRows
import Derived.Test.YtgndjjdeopfdkaaGreatKLowerSame12
/- texts VB LV of the proof of LowerSameSaid -/
set_option maxHeartbeats 16000000
set_option maxRecDepth 20000
set_option linter.unusedVariables false
set_option linter.unusedSimpArgs false
namespace Go.Proofs.YtgndjjdeopfdkaaGreat
open Go.SX Go.RowKit
theorem adJ(c:fT)(s:fu)(vl:List Int)(n:ak)(i:Nat)(sp:ax)(hN:wT c s vl)(h0:0<=n.a)(hna:n.a.toNat<vl.length)(hd:n.data.xs.length=3)(hds:n.data.bF)(hi:c.di.l[i]? =some sp)(Py:sp.bF)(hpl:∀x∈sp.xs,0<=x/\x<c.aA)(w:World)(ρ:Nat->SX.Loc)(F:Nat->Prop)(h:qF w ρ F 2 5 (kG c s vl) (D6 c s n)):
 Calls Tryz.prog 31 (SV.dW ρ [.lp 0 0 0 0,.agg (vo n),aC i]).toArray w (pz w ρ F c s vl (rM c.aA s.pl (vl.getD n.a.toNat 0) n.data.xs sp.xs)):=by
 have h64:∀j,j<n.data.xs.length->i64 (n.data.xs.getD j 0):=λj hj=>by
  rw[List.getD_eq_getElem?_getD,List.getElem?_eq_getElem hj];exact hds.fits _ (List.getElem_mem hj)
 have anO:=h64 0 aa
 have ana:=h64 1 aa
 have amW:=h64 2 aa
 obtain⟨x,hx⟩:∃x,vl.getD n.a.toNat 0=x:=⟨_,rfl⟩
 rw[Z9,hx]
 have hP:aeM c s 500000 n i sp:=⟨hN.aA,⟨hN.ok,hN.yF,hN.y9⟩,by omega,hi,Py,hpl,hd⟩
 refine zzF Tryz.func31 (yZ 2 ρ) ρ [.lp 0 0 0 0,.agg (vo n),aC i] (kG c s vl) ((D6 c s n).and (l8 w F)) 5 h.abs ?_
 iterate 2
  refine Wp.go bW rfl ?_
  repeat' ((conv=>whnf)<;>first|(show cO _ 1 ..;refine mV [] _ ak_ ?_)|refine eU ?_|(show eP ..;(refine bY n.a.toNat aa hna oG ?_))|(show rQ ..;refine aho hna hx ?_))
 all_goals exact Wp.into 7 [] (alH c s vl (n.data.xs.getD 2 0) (n.data.xs.getD 1 0) n i x (n.data.xs.getD 0 0) sp hP rfl anO rfl ana rfl amW w ρ F) ay ⟨rfl,rfl⟩ ⟨rfl,⟨rfl,rfl,rfl,rfl,rfl,trivial⟩,fE,λR w' h=>⟨⟨⟨⟨h.1.1.1,vP _ _ _⟩,h.1.1.2⟩,h.1.2⟩,h.2⟩⟩
theorem acT{c:fT}{aV:Int}{sh:List (List Int)}{g:List ak}(h:Ie c aV sh g){i:Nat}{n:ak}(hi:g[i]? =some n):Hu c n i (ww n.ai):=by
 obtain⟨hl,hF,s0,hs0,hin⟩:=h.formed hi
 obtain⟨hn,hsm,_⟩:=h.each i n hi
 obtain⟨t2,to,ht2,_,hto,Jk,_,eto,_,gt2,_,tp,tl,te⟩:=h.at_ hl
 have hsi:=Y7 tp
 have es:s0=t2.xs:=by rw[hs0]at gt2;simpa using gt2
 have hah:=uG hin.form
 have hkk:=hF.ai
 by_cases k1:n.ai=1
 ·exact KC h hi k1
 by_cases k9:eF n\/n.ai=9
 ·exact En h hi k9
 have hkind:n.ai=2\/n.ai=6\/n.ai=7\/n.ai=8:=by unfold eF at k9;omega
 intro s vl w ρ F hN hvl hO
 have hw:qF w ρ F 2 5 (kG c s vl) (D6 c s n):=FV hO (λR w h=>h.1)
 have hdata:n.ai=2->n.az.xs=s0:=λhk=>by
  have:=hin.az;unfold bP at this;rw[if_pos (.inr hk)]at this;simpa using this
 by_cases k2:n.ai=2
 ·have e:d_ c n i s.pl vl=bI (bH c.aA s.pl to.xs (λe=>n.data.xs.getD e 0)).1 2 0 0 (bH c.aA s.pl to.xs (λe=>n.data.xs.getD e 0)).2:=by unfold d_;rw[if_neg k1,if_pos k2,eto]
  have hd:=hah.2.2.2.2 k2
  have f:ww n.ai=28:=by rw[k2];rfl
  rw[hdata k2,es]at hd
  rw[e,f];exact acF c s vl n i to hN aa hn.data hto Jk hsi w ρ F hw
 have hA:=hF.a k1 k2
 have h0:0<=n.a:=hA.1
 have ha:n.a.toNat<vl.length:=by omega
 by_cases k6:n.ai=6
 ·have e:d_ c n i s.pl vl=bI s.pl 3 (vl.getD n.a.toNat 0) (vl.getD n.b.toNat 0) 0:=by unfold d_;rw[if_neg k1,if_neg k2,if_pos k6]
  have f:ww n.ai=29:=by rw[k6];rfl
  have hb:=hF.b k6
  rw[e,f];exact ah6 c s vl n i hN ⟨h0,hb.1⟩ ha aa w ρ F (FV hO (λR w h=>trivial))
 by_cases k7:n.ai=7
 ·have e:d_ c n i s.pl vl=bI (bH c.aA s.pl to.xs (λ_=>n.data.xs.getD 0 0)).1 5 (vl.getD n.a.toNat 0) 0 (bH c.aA s.pl to.xs (λ_=>n.data.xs.getD 0 0)).2:=by unfold d_;rw[if_neg k1,if_neg k2,if_neg k6,if_pos k7,eto]
  have f:ww n.ai=30:=by rw[k7];rfl
  rw[e,f];exact ZE c s vl n i to hN h0 ha (hah.2.2.1 k7) hn.data hto Jk hsi w ρ F hw
 have k8:n.ai=8:=by omega
 have e:d_ c n i s.pl vl=rM c.aA s.pl (vl.getD n.a.toNat 0) n.data.xs to.xs:=by unfold d_;rw[if_neg k1,if_neg k2,if_neg k6,if_neg k7,if_pos k8,eto]
 have f:ww n.ai=31:=by rw[k8];rfl
 rw[e,f];exact adJ c s vl n i to hN h0 ha (hah.2.2.2.1 k8) hn.data hto Jk hsi w ρ F hw
theorem Ro(w:World)(g:bM)(o:DZ)(aA:Int)(hg:g.ok w)(h64:i64 aA):Calls Tryz.prog 9 #[g.val,o.val,.int .i64 aA] w (vD w (jX g o aA)):=
 ac4 w g o aA hg h64 (λ_ _ h _ _ hi=>acT h hi)
section
variable {w:World} {nb:Option Addr} {nc:Nat} {t d b:ax}
theorem akZ(hr:bE w nb 9 (bO [inN t 0 1,Qv d b]))(ht:t.ok w)(hd:d.ok w)(hb:b.ok w)(h2:d.xs.length<=5000)(h3:b.xs.length<=5000):(fwG nb nc t d b).ok w:=by
 refine⟨hr,λn hn=> ?_,λn hn=> ?_,(show 2<=1000000 by decide),(show i64 1 from⟨by decide,by decide⟩)⟩
 ·rcases List.mem_cons.1 hn with rfl|hn
  ·exact⟨ht,Uu w,Uu w,WX,pG,pG,pG,WX,pG⟩
  ·rw[List.mem_singleton.1 hn]
   exact⟨Uu w,hd,hb,(show i64 3 from⟨by decide,by decide⟩),pG,pG,pG,pG,pG⟩
 ·rcases List.mem_cons.1 hn with rfl|hn
  ·exact⟨Nat.zero_le _,Nat.zero_le _⟩
  ·rw[List.mem_singleton.1 hn];exact⟨h2,h3⟩
theorem afO{c:fT}{aV:Int}{sh:List (List Int)}(h:Ie c aV sh (fwG nb nc t d b).l):∀(i:Nat) (n:ak),(fwG nb nc t d b).l[i]? =some n->Hu c n i (ww n.ai):=by
 intro i n hi
 have hm:=List.mem_of_getElem? hi
 rcases List.mem_cons.1 hm with e|hm
 ·exact KC h hi (by rw[e];rfl)
 ·exact En h hi (.inl (by rw[List.mem_singleton.1 hm];exact .inl rfl))
def fxV:yx:=⟨4,⟨[⟨0,1,[0,1]⟩],[[5,0,0,0],[7,0,0,0]],[⟨1,0,0,0,0⟩,⟨5,1,0,0,0⟩,⟨8,2,0,0,1⟩,⟨5,3,2,0,1⟩,⟨3,4,1,3,0⟩]⟩,4,[0]⟩
theorem ajB:mr (fwG none 0 ⟨none,0,[2]⟩ ⟨none,0,[5,7]⟩ ⟨none,0,[0]⟩) 0 false 4=(fxV,0):=by kernel_rfl
theorem alp(ht:t.xs=[2])(hd:d.xs=[5,7])(hb:b.xs=[0]):mr (fwG nb nc t d b) 0 false 4=(fxV,0):=by
 rw[<-ajB]
 refine Rs (g:=fwG nb nc t d b) (g':=fwG none 0 ⟨none,0,[2]⟩ ⟨none,0,[5,7]⟩ ⟨none,0,[0]⟩) ?_ rfl _ _ _
 show [aN.mk 1 0 0 t.xs 0 1 0 [] [],aN.mk 3 0 0 [] 0 0 0 d.xs b.xs]=_
 rw[ht,hd,hb];rfl
def fxC:List jf:=[⟨1,0,0,0,0⟩,⟨5,1,0,0,0⟩,⟨8,2,0,0,1⟩,⟨5,3,2,0,1⟩,⟨3,4,1,3,0⟩]
theorem abB:∀x∈fxC,sG x:=by
 intro x hx
 have:(fxC.all λx=>decide (-1000<=x.op/\x.op<=1000/\ -1000<=x.KD/\x.KD<=1000/\ -1000<=x.a/\x.a<=1000/\ -1000<=x.b/\x.b<=1000/\ -1000<=x.k/\x.k<=1000))=true:=by decide
 have:=of_decide_eq_true (List.all_eq_true.1 this x hx)
 unfold sG i64
 omega
theorem Yz{w0:World}{i n:Nat}(l:List jf){R0:List (List Value)}{T:TypeId}{H:Heap}{S:bR}{nx:Nat}{K:SV->Heap->bR->Nat->Prop}(hN:∀R w,S.holds R w->(aU w0).holds R w)(he:R0=iX l)(hn:n=l.length)(h:∀base cap,K (.c (.slice base l.length cap)) H (S.and ((f_ base 5 (iX l)).past w0.heap.size)) nx):qN (.os i n) ((i,.rows R0 5 T)::H) S nx K:=by
 subst he hn
 exact sH w0.heap.size (λR w hS b hb=>(hN R w hS b hb).1) (λlc _=>h lc.base lc.cap)
theorem Aq{v:l7}{N:Nat}{R:Nat->Prop}(h:((LD v).past N).holds R w):bE w v.aF.base 1 (bA v.aF.l)/\(∀u∈v.aF.l,bE w u.base 1 (aZ u.xs))/\bE w v.cb 5 (iX v.code)/\bE w v.out.base 1 (aZ v.out.xs)/\bE w v.ib 3 (mq v.inputs)/\∀x∈v.inputs,bE w x.aA.base 1 (aZ x.aA.xs):=by
 have h:(LD v).holds R w:=(LD v).mono h (λb hb=>hb.1)
 exact⟨bf h.1.2.1,λu hu=>bf (h.1.2.2 u hu),bf h.2.1,bf h.2.2,bf h.1.1.1,λx hx=>bf (h.1.1.2 x hx)⟩
theorem K3(w:World):Calls Tryz.prog 7 #[] w λe w'=>e= .returned (.bool true)/\Ext w w':=by
 refine fH Tryz.func7 [] ?_
 repeat' ((conv=>whnf)<;>first|refine Lv ?_)
 refine vE (w0:=w) [2] (λR w' h=>h) rfl rfl (LW rfl) ay (λt ht hts=> ?_)
 repeat' ((conv=>whnf)<;>first|refine Lv ?_)
 refine vE (w0:=w) [5,7] (λR w' h=>h.1) rfl rfl (LW rfl) ay (λd hd hds=> ?_)
 repeat' ((conv=>whnf)<;>first|refine Lv ?_)
 refine vE (w0:=w) [0] (λR w' h=>h.1.1) rfl rfl (LW rfl) ay (λb hb hbs=> ?_)
 repeat' ((conv=>whnf)<;>first|refine Lv ?_)
 refine QV (w0:=w) [inN t 0 1,Qv d b] (λR w' h=>h.1.1.1) rfl rfl (λnb nc=> ?_)
 repeat' ((conv=>whnf)<;>first|refine Lv ?_)
 refine FN (fxV,0) Tryz.call9 (λρ w' hw=>by
  have hg:(fwG nb nc t d b).ok w':=ae hw λR h=>akZ (bf h.2) (dw hts h.1.1.1.2) (dw hds h.1.1.2) (dw hbs h.1.2) (by rw[hd];decide) (by rw[hb];decide)
  have:=Zf w' (fwG nb nc t d b) ⟨0,false,false,false,0⟩ 4 hg ay (afy (n:=2) (m:=1) ht ay ay (by rw[hd];rfl) (by rw[hb];rfl) (by rw[hd];decide) (by rw[hb];decide)) rfl (λc hS=>afO hS)
  rw[alp ht hd hb]at this
  exact this) (λv hv hvs=> ?_)
 obtain⟨sl,ib,ic,inp,⟨pb,pc,pl⟩,cb,cc,code,last,out⟩:=v
 have hcode:code=fxC:=congrArg (λx:yx=>x.low.code) hv
 have hlast:last=4:=congrArg (λx:yx=>x.last) hv
 have hpl:pl.map ax.xs=[[5,0,0,0],[7,0,0,0]]:=congrArg (λx:yx=>x.low.aF) hv
 obtain⟨p0,p1,rfl⟩:∃p0 p1,pl=[p0,p1]:=by
  have:pl.length=2:=by simpa using congrArg List.length hpl
  match pl,this with
  |[p0,p1],_=>exact⟨p0,p1,rfl⟩
 have hp1:p1.xs=[7,0,0,0]:=by simp only[List.map_cons,List.map_nil,List.cons.injEq]at hpl;exact hpl.2.1
 have ajr:p1.bF:=hvs.aF p1 aI
 subst hcode hlast
 clear hv
 repeat' ((conv=>whnf)<;>first|refine Lv ?_)
 refine Yz (w0:=w) fxC (λR w' h=>h.1.1.1.1.1) rfl rfl (λsb sc=> ?_)
 refine Wp.know (p:=∃a,pb=some a) (λρ w' hw=>ae hw λR h=>aT (j:=1) (Aq h.1.2).1 (show 1<2 by decide)) ?_
 rintro⟨pa,rfl⟩
 repeat' ((conv=>whnf)<;>first|(show @iG _ _ _;refine gJ rfl ?_)|(show dn ..;refine aM pa 1 rfl rfl (show 1<2 by decide) ?_)|(show gZ ..;refine bN (λR w' h=>(Aq h.1.2).1) [p1.val] p1.val rfl rfl ?_)|(show aJ _ 21 ..;(refine aR (f:=21) Tryz.call21 (.bool true) (λρ w' hw=>by have:=Ua w' cb cc fxC sb sc fxC (ae hw λR h=>(Aq h.1.2).2.2.1) (ae hw λR h=>bf h.2) ay abB abB;rw[decide_eq_true rfl]at this;exact this) ?_))|refine Lv ?_)
 refine vE (w0:=w) [7,0,0,0] (λR w' h=>h.1.1.1.1.1.1) rfl rfl (LW rfl) ay (λq hq hqs=> ?_)
 repeat' ((conv=>whnf)<;>first|(show @iG _ _ _;refine gJ rfl ?_)|(show aJ _ 20 ..;(refine aR (f:=20) Tryz.call20 (.bool true) (λρ w' hw=>by have:=Nv w' p1 q (ae hw λR h=>⟨(Aq h.1.1.2).2.1 p1 aI,ajr.fits,ajr.room,ajr.few⟩) (ae hw λR h=>dw hqs h.2);rw[decide_eq_true (hp1.trans hq.symm)]at this;exact this) ?_))|refine a_ ?_)
 conv=>whnf
 exact bq (λR w' h=>h.1.1.1.1.1.1.1) rfl rfl
end
section
theorem afS{a b:Nat}{K:Int->Prop}(hk:K ((a/b:Nat):Int))(hb:0<b)(ha:a<256):yM .u8 (a:Int) (b:Int) K:=by
 rw[Cz]
 refine⟨by omega,?_⟩
 have h1:(a:Int).tdiv (b:Int)=((a/b:Nat):Int):=by rw[Int.tdiv_eq_ediv_of_nonneg aa];rfl
 have h2:a/b<=a:=Nat.div_le_self a b
 rw[h1]
 generalize a/b=q at*
 have:=wrap_u8 (z:=(q:Int)) (K:=λz=>z=(q:Int)) aa aa rfl
 rw[mZ]at this
 rw[this];exact hk
def Em(k:Nat):DZ:=⟨(k%2:Nat),decide (k/2%2=1),false,decide (k/4%2=1),0⟩
theorem K_(w:World)(k:Nat)(hk:k<256):Calls Tryz.prog 15 #[.int .u8 k] w λe w'=>e= .returned (Em k).val/\Ext w w':=by
 have h1:(Em k).val= .agg #[.int .i64 ((k%2:Nat):Int),.bool (decide (k/2%2=1)),.bool false,.bool (decide (k/4%2=1)),.int .i64 0]:=rfl
 rw[h1]
 have c1:k/2%2=0\/k/2%2=1:=by omega
 have c2:k/4%2=0\/k/4%2=1:=by omega
 have b1:k/2<256:=by omega
 have b2:k/4<256:=by omega
 refine fH Tryz.func15 [.c (.int .u8 k)] ?_
 rcases c1 with c1|c1<;>rcases c2 with c2|c2
 all_goals
  rw[c1,c2]
  repeat' ((conv=>whnf)<;>first|refine bn ?_|(show x8 ..;(first|refine Yi (a:=k) (b:=2) ?_|refine pI (a:=k/2) (b:=2) c1 ?_|refine pI (a:=k/4) (b:=2) c2 ?_))|(show yM ..;(first|refine afS (a:=k) (b:=2) ?_ ay hk|refine afS (a:=k) (b:=4) ?_ ay hk))|(show fF ..;refine pF ((k%2:Nat):Int) rfl aa aa ?_)|refine a_ ?_)
  all_goals(conv=>whnf)
  all_goals exact bZ (λ_ _ h=>h) (λ_=>rfl) rfl
variable {v:l7} {sl vals:List Int}
theorem agZ{p:yx}{n N:Nat}{inp:List (List Int)}(hM:J9 n p inp sl vals)(hv:v.pl=p)(hs:v.bF)(hn:4<=n/\n<=2048)(hp:bitsOf .and .i64 (n:Int) ((n:Int)-1)=0){R:Nat->Prop}{w:World}(h:((LD v).past N).holds R w):KE w v n:=by
 subst hv
 obtain⟨h1,h2,h3,h4,h5,h6⟩:=Aq h
 have hl:=hM.val.lt
 have e1:(v.aF.l.map ax.xs).length=v.aF.l.length:=List.length_map _
 have e2:(v.inputs.map nN.pl).length=v.inputs.length:=List.length_map _
 have hc:v.code.length<=2048:=hM.few
 have hl1:0<=v.last:=hl.1
 have hl2:v.last<(v.code.length:Nat):=hl.2
 have ho:v.out.xs=sl:=hM.out
 exact⟨hM.aA,hn,hp,⟨by omega,hc⟩,⟨hl1,hl2⟩,⟨⟨h4,hs.out.fits,hs.out.room,hs.out.few⟩,by rw[ho];exact hM.places⟩,h1,λu hu=>⟨⟨h2 u hu,(hs.aF u hu).fits,(hs.aF u hu).room,(hs.aF u hu).few⟩,hM.ok.aF u.xs (List.mem_map.2 ⟨u,hu,rfl⟩)⟩,h5,λx hx=>⟨⟨h6 x hx,(hs.inputs x hx).1.fits,(hs.inputs x hx).1.room,(hs.inputs x hx).1.few⟩,(hM.ok.inputs x.pl (List.mem_map.2 ⟨x,hx,rfl⟩)).1,(hM.ok.inputs x.pl (List.mem_map.2 ⟨x,hx,rfl⟩)).2⟩,h3,λi x hx=>by
  have:=hM.ok.form i x hx
  rw[<-e1,<-e2];exact this,hs.yF,hs.aaK⟩
variable {t:Nat}
theorem ahK{p:yx}{n:Nat}{ins:aY}(hM:J9 n p (ins.l.map ax.xs) sl vals)(hv:v.pl=p):((qM (plI v) (Iu n v ins) v.code).map (qJ t)).getD v.last.toNat []=qJ t (bU n sl λe=>vals.getD e 0):=by
 subst hv
 obtain⟨h0,h1,h2⟩:=hM.val
 have h1:v.last.toNat<v.code.length:=h1
 have h2:(qM (plI v) (Iu n v ins) v.code).getD v.last.toNat []=bU n sl λe=>vals.getD e 0:=h2
 rw[<-h2,List.getD_eq_getElem?_getD,List.getElem?_map,List.getD_eq_getElem?_getD,List.getElem?_eq_getElem (by rw[uw];exact h1)]
 rfl
theorem Tw{n:Nat}(h:Sl n sl){k:Nat}(hk:k<sl.length):(qJ t (bU n sl λe=>vals.getD e 0)).getD (sl.getD k 0).toNat 0=qj t (vals.getD k 0%t):=by
 have h0:qj t (0%(t:Int))=0:=by
  rw[Int.zero_emod];unfold qj;split<;>omega
 unfold qJ
 rw[zb (g:=λz=>qj t (z%(t:Int))) h0,oC h _ hk]
end
section
abbrev aiK:DT:=(bS [0,1] (.alt 2 (.alt 3 (bS [4,5] (.alt 6 (bS [107,108,109] .done) (.one 7 (.alt 6 (bS [108,109] .done) (bS [108,106,109] .done))))) (bS [107,103,4,5] (.alt 6 (bS [108,109] .done) (bS [108,106,109] .done)))) (bS [107,102,103,4,5] (.alt 6 (bS [108,109] .done) (bS [108,106,109] .done)))))
abbrev LsW(w:World)(k:Nat)(env:Env)(H:Heap)(S:bR)(nx:Nat):Prop:=Wp ⟨Tryz.prog,⟨w,[]⟩,Tryz.f6.ntmps,tab⟩ (abA k (bodyC Tryz.f6)) env H S nx (acw ⟨Tryz.prog,⟨w,[]⟩,Tryz.f6.ntmps,tab⟩ Tryz.f6.results.toList (λe w'=>e= .returned (.bool true)/\Ext w w'))
variable {g:bM} {o:DZ}
theorem Uh{aA:Int}(h:(jX g o aA).2=0):(cZ g).1=0:=by
 unfold jX at h
 split at h
 ·by_cases hs:(cZ g).1≠0
  ·rw[if_pos hs]at h;exact absurd h hs
  ·omega
 ·cases h
structure zf(v:l7)(x:aY)(n:Nat)(vals:List Int):Prop where
 means:J9 n v.pl (x.l.map ax.xs) v.out.xs vals
 bF:v.bF
 n2:4<=n/\n<=2048
 pow:bitsOf .and .i64 (n:Int) ((n:Int)-1)=0
variable {x:aY} {v:l7}
theorem Yy{n:Nat}{V:List (List Int)}(hsp:(cZ g).1=0)(hv:d9 (check g).2 g.l [] (x.l.map ax.xs)=(0,V))(hr:(jX g o n).2=0)(h:v.pl=(jX g o n).1)(hs:v.bF):zf v x n (V.getD g.out.toNat []):=by
 obtain⟨⟨_,_,h4,h8,hp⟩,sl,hM⟩:=ahE hsp hv o n hr
 rw[<-h,Int.toNat_natCast]at hM
 have ho:v.out.xs=sl:=hM.out
 subst ho
 exact⟨hM,hs,by omega,hp⟩
variable {N:Nat} {vals:List Int} {R:Nat->Prop} {w:World}
theorem zf.ok{n:Nat}(h:zf v x n vals)(hv:((LD v).past N).holds R w):KE w v n:=agZ h.means rfl h.bF h.n2 h.pow hv
theorem zf.ins{n:Nat}(h:zf v x n vals)(hxs:∀u∈x.l,u.bF)(hx:((jD x).past N).holds R w):ae7 w v x:=
 ⟨bf hx.1,λu hu=>dw (hxs u hu) (hx.2 u hu),h.means.mat⟩
def SA(v:l7)(x:aY)(n t:Nat):List (List Int):=(qM (plI v) (Iu n v x) v.code).map (qJ t)
theorem zf.run{n:Nat}(h:zf v x n vals)(hxs:∀u∈x.l,u.bF)(t:Nat)(ht:2<=t/\t<=1073741824)(hv:((LD v).past N).holds R w)(hx:((jD x).past N).holds R w):Calls Tryz.prog 18 #[v.val,x.val,.int .u64 t] w (oW w (0,SA v x n t)):=
 agK w v n (h.ok hv) x (h.ins hxs hx) t ht
theorem zf.last{v:l7}{x:aY}{n:Nat}{vals:List Int}(h:zf v x n vals):0<=v.last/\v.last.toNat<v.code.length:=⟨h.means.val.1,h.means.val.2.1⟩
theorem zf.told{n t:Nat}(h:zf v x n vals){sv:aY}(hs:sv.l.map ax.xs=SA v x n t):sv.l.length=v.code.length/\∃u,sv.l[v.last.toNat]? =some u/\u.xs=qJ t (bU n v.out.xs λe=>vals.getD e 0):=by
 have hl:sv.l.length=v.code.length:=by
  have:=congrArg List.length hs
  rw[List.length_map]at this
  rw[this];unfold SA;rw[List.length_map,uw]
 have hk:=h.last.2
 refine⟨hl,sv.l[v.last.toNat],List.getElem?_eq_getElem aa,?_⟩
 have e:=ahK (v:=v) (t:=t) h.means rfl
 have e2:(SA v x n t).getD v.last.toNat []=qJ t (bU n v.out.xs λe=>vals.getD e 0):=e
 rw[<-hs,List.getD_eq_getElem?_getD,List.getElem?_map,List.getElem?_eq_getElem aa]at e2
 exact e2
theorem zf.len{v:l7}{x:aY}{n:Nat}{vals:List Int}(h:zf v x n vals):v.out.xs.length=vals.length:=h.means.len.symm
abbrev S6(w:World)(g:bM)(x:aY):bR:=((aU w).and (Eg λw=>g.ok w)).and ((jD x).past w.heap.size)
abbrev S7(w:World)(g:bM)(x:aY)(v1 v2:l7):bR:=((S6 w g x).and ((LD v1).past w.heap.size)).and ((LD v2).past w.heap.size)
theorem afY(w:World)(g:bM)(x:aY)(hgood:kY g.l (x.l.map ax.xs))(hxs:∀u∈x.l,u.bF)(o1 o2:DZ)(v1 v2:l7)(h1:v1.pl=(jX g o1 64).1)(s1:v1.bF)(h2:v2.pl=(jX g o2 64).1)(s2:v2.bF):
 LsW w 7 [(10,.c x.val),(11,.lp 4 0 0 0),(12,aC (jX g o1 64).2),(13,.lp 5 0 0 0),(14,aC (jX g o2 64).2)] [(4,.box [aC v1.aA,.c (.slice v1.ib v1.inputs.length v1.ic),.c v1.aF.val,.c (.slice v1.cb v1.code.length v1.cc),aC v1.last,.c v1.out.val] 34),(5,.box [aC v2.aA,.c (.slice v2.ib v2.inputs.length v2.ic),.c v2.aF.val,.c (.slice v2.cb v2.code.length v2.cc),aC v2.last,.c v2.out.val] 34)] (S7 w g x v1 v2) 6:=by
 by_cases e1:(jX g o1 64).2=0
 ·by_cases e2:(jX g o2 64).2=0
  ·have hsp:=Uh e1
   obtain⟨V,hV,_⟩:=ac1 hsp hgood
   have g1:=Yy (n:=64) hsp hV e1 h1 s1
   have g2:=Yy (n:=64) hsp hV e2 h2 s2
   generalize V.getD g.out.toNat []=vals at*
   rw[e1,e2]
   clear h1 h2 e1 e2 hV hgood
   have l1:=g1.len
   have l2:=g2.len
   have l12:v1.out.xs.length=v2.out.xs.length:=by omega
   repeat' ((conv=>whnf)<;>first|refine bn ?_|(show aJ _ 18 [.agg (aC v1.aA::_),_,_] ..;((refine oD (0,SA v1 x 64 536870912) Tryz.call18 (λρ w' hw=>ae hw λR h=>g1.run hxs 536870912 ay h.1.2 h.1.1.2) (λhne=>absurd rfl hne) (λ_ sv1 hs1 ao1=> ?_);obtain⟨hl1,u1,hu1,e1⟩:=g1.told hs1)))|(show aJ _ 18 [.agg (aC v2.aA::_),_,_] ..;((refine oD (0,SA v2 x 64 536870912) Tryz.call18 (λρ w' hw=>ae hw λR h=>g2.run hxs 536870912 ay h.1.2 h.1.1.1.2) (λhne=>absurd rfl hne) (λ_ sv2 hs2 aoL=> ?_);obtain⟨hl2,u2,hu2,e2⟩:=g2.told hs2)))|(show aJ _ 19 [.agg (aC v1.aA::_)] ..;refine aR (f:=19) Tryz.call19 (.int .i64 0) (λρ w' hw=>ae hw λR h=>CO w' v1 64 (g1.ok h.1.1.1.2)) ?_)|(show aJ _ 19 [.agg (aC v2.aA::_)] ..;refine aR (f:=19) Tryz.call19 (.int .i64 0) (λρ w' hw=>ae hw λR h=>CO w' v2 64 (g2.ok h.1.1.2)) ?_)|refine bV ?_)
   have q1:=g1.last
   have fo1:v1.out.xs.length<=1000000:=s1.out.few
   have q2:=g2.last
   obtain⟨L1,hL1⟩:∃L:Nat,v1.last=L:=⟨v1.last.toNat,by omega⟩
   obtain⟨L2,hL2⟩:∃L:Nat,v2.last=L:=⟨v2.last.toNat,by omega⟩
   have hg1:=List.getElem?_eq_some_iff.1 hu1
   have hg2:=List.getElem?_eq_some_iff.1 hu2
   have m1:u1∈sv1.l:=List.mem_of_getElem? hu1
   have m2:u2∈sv2.l:=List.mem_of_getElem? hu2
   have r1:=oQ hu1
   have r2:=oQ hu2
   rw[hL1,Int.toNat_natCast]at r1 q1
   rw[hL2,Int.toNat_natCast]at r2 q2
   have n1:u1.xs.length=64:=by rw[e1];unfold qJ;rw[List.length_map,dA]
   have n2:u2.xs.length=64:=by rw[e2];unfold qJ;rw[List.length_map,dA]
   refine Wp.know (p:=((v1.out.xs.length≠0->∃a,v1.out.base=some a)/\(v2.out.xs.length≠0->∃a,v2.out.base=some a))/\((∃a,sv1.base=some a)/\∃a,sv2.base=some a)/\(∃a,u1.base=some a)/\∃a,u2.base=some a) (λρ w' hw=>ae hw λR h=>⟨⟨λhne=>aT (j:=0) (Aq h.1.1.1.2).2.2.2.1 dS,λhne=>aT (j:=0) (Aq h.1.1.2).2.2.2.1 dS⟩,⟨aT (j:=0) (bf h.1.2.1) nO,aT (j:=0) (bf h.2.1) nO⟩,aT (j:=0) (bf (h.1.2.2 u1 m1)) dS,aT (j:=0) (bf (h.2.2 u2 m2)) dS⟩) ?_
   rintro⟨⟨hb1,hb2⟩,⟨⟨sa1,hs1⟩,sa2,hs2⟩,⟨ua1,alP⟩,ua2,akY⟩
   refine Wp.loop (σ:=Nat) 6 (λk=>[(10,.c x.val),(11,.lp 4 0 0 0),(13,.lp 5 0 0 0),(15,.c sv1.val),(17,.c sv2.val),(114,aC v1.out.xs.length),(115,aC k)]) (λ_=>[(4,.box [aC v1.aA,.c (.slice v1.ib v1.inputs.length v1.ic),.c v1.aF.val,.c (.slice v1.cb v1.code.length v1.cc),aC v1.last,.c v1.out.val] 34),(5,.box [aC v2.aA,.c (.slice v2.ib v2.inputs.length v2.ic),.c v2.aF.val,.c (.slice v2.cb v2.code.length v2.cc),aC v2.last,.c v2.out.val] 34)]) (λ_=>((S7 w g x v1 v2).and ((jD sv1).past w.heap.size)).and ((jD sv2).past w.heap.size))
    (λk=>k<=v1.out.xs.length) (λk=>v1.out.xs.length-k) 0 [] ay (λ_=>⟨rfl,rfl⟩) (Nat.zero_le _) ⟨rfl,⟨rfl,rfl,rfl,rfl,rfl,rfl,rfl,trivial⟩,fE,λR w' h=>h⟩ ?_
   rintro k hk
   by_cases hlt:k<v1.out.xs.length
   ·obtain⟨oa1,ho1⟩:=hb1 aa
    obtain⟨oa2,ho2⟩:=hb2 aa
    have p1:=g1.means.places
    have p2:=g2.means.places
    have b1:=p1.bd _ (cu (k:=k) hlt)
    have b2:=p2.bd _ (cu (k:=k) (by omega:k<v2.out.xs.length))
    have t1:=Tw (t:=536870912) (vals:=vals) p1 hlt
    have t2:=Tw (t:=536870912) (vals:=vals) p2 (by omega:k<v2.out.xs.length)
    rw[<-e1]at t1
    rw[<-e2]at t2
    obtain⟨P1,hP1⟩:∃P:Nat,v1.out.xs.getD k 0=P:=⟨(v1.out.xs.getD k 0).toNat,by omega⟩
    obtain⟨P2,hP2⟩:∃P:Nat,v2.out.xs.getD k 0=P:=⟨(v2.out.xs.getD k 0).toNat,by omega⟩
    rw[hP1,Int.toNat_natCast]at t1
    rw[hP2,Int.toNat_natCast]at t2
    rw[hP1]at b1
    rw[hP2]at b2
    repeat' ((conv=>whnf)<;>first|refine bn ?_|(show dn ..;(first|refine aM sa1 L1 hs1 hL1 aa ?_|refine aM sa2 L2 hs2 hL2 aa ?_|refine aM oa1 k ho1 rfl aa ?_|refine aM oa2 k ho2 rfl aa ?_|refine aM ua1 P1 alP rfl aa ?_|refine aM ua2 P2 akY rfl aa ?_))|(show gZ ..;(first|refine bN (a:=sa1) (j:=L1) (λR w' hR=>by rw[<-hs1];exact bf hR.1.2.1) _ _ r1 rfl ?_|refine bN (a:=sa2) (j:=L2) (λR w' hR=>by rw[<-hs2];exact bf hR.2.1) _ _ r2 rfl ?_|refine Mg (a:=oa1) (λR w' hR=>by rw[<-ho1];exact(Aq hR.1.1.1.2).2.2.2.1) hlt hP1 ?_|refine Mg (a:=oa2) (λR w' hR=>by rw[<-ho2];exact(Aq hR.1.1.2).2.2.2.1) aa hP2 ?_|refine Mg (a:=ua1) (λR w' hR=>by rw[<-alP];exact bf (hR.1.2.2 u1 m1)) aa t1 ?_|refine Mg (a:=ua2) (λR w' hR=>by rw[<-akY];exact bf (hR.2.2 u2 m2)) aa t2 ?_))|(show fF ..;refine pF ((k+1:Nat):Int) aa aa aa ?_)|refine bV ?_)
    all_goals(conv=>whnf)
    all_goals exact⟨k+1,[],hlt,by show v1.out.xs.length-(k+1)<v1.out.xs.length-k;omega,rfl,fE,fE,λ_ _ h=>h⟩
   ·obtain rfl:k=v1.out.xs.length:=by omega
    repeat' ((conv=>whnf)<;>first|refine bn ?_|refine bV ?_)
    all_goals(conv=>whnf)
    all_goals exact bZ (λ_ _ h=>h.1.1.1.1.1.1) (λ_=>rfl) rfl
  ·repeat' ((conv=>whnf)<;>first|refine bn ?_|refine bV ?_)
   all_goals(conv=>whnf)
   all_goals exact bZ (λ_ _ h=>h.1.1.1.1) (λ_=>rfl) rfl
 ·repeat' ((conv=>whnf)<;>first|refine bn ?_|refine bV ?_)
  all_goals(conv=>whnf)
  all_goals exact bZ (λ_ _ h=>h.1.1.1.1) (λ_=>rfl) rfl
end
theorem ab5:i64 64:=⟨by decide,by decide⟩
theorem afe(w:World)(g:bM)(x:aY)(hgood:kY g.l (x.l.map ax.xs))(hxs:∀u∈x.l,u.bF)(b:Nat)(hb:b<256)(o1:DZ)(v1:l7)(h1:v1.pl=(jX g o1 64).1)(s1:v1.bF):
 LsW w 6 [(3,.c (.int .u8 b)),(9,.lp 2 0 0 0),(10,.c x.val),(11,.lp 4 0 0 0),(12,aC (jX g o1 64).2)] [(2,.box [.c (.slice g.base g.l.length g.cap),aC g.out] 24),(4,.box [aC v1.aA,.c (.slice v1.ib v1.inputs.length v1.ic),.c v1.aF.val,.c (.slice v1.cb v1.code.length v1.cc),aC v1.last,.c v1.out.val] 34)] ((S6 w g x).and ((LD v1).past w.heap.size)) 5:=by
 repeat' ((conv=>whnf)<;>first|(show cO _ 8 ..;refine mV [8] _ aiK ?_)|refine bV ?_|refine And.intro ?_ ?_)
 all_goals(repeat' ((conv=>whnf)<;>first|refine eU ?_|(show aJ _ 15 ..;refine aR (f:=15) Tryz.call15 (Em b).val (λρ w' hw=>K_ w' b hb) ?_)|(show aJ _ 9 ..;refine FN (jX g (Em b) 64) Tryz.call9 (λρ w' hw=>Ro w' g (Em b) 64 (ae hw λR h=>iO h.1.1.2) ab5) (λv2 h2 s2=> ?_))|refine And.intro ?_ ?_))
 all_goals(conv=>whnf)
 all_goals exact Wp.into 6 [] (afY w g x hgood hxs o1 (Em b) v1 _ h1 s1 fw fw) ay ⟨rfl,rfl⟩ ⟨rfl,⟨rfl,rfl,rfl,rfl,rfl,trivial⟩,fE,λR w' h=>h⟩
theorem age(w:World)(g:bM)(x:aY)(hgood:kY g.l (x.l.map ax.xs))(hxs:∀u∈x.l,u.bF)(a b:Nat)(ha:a<256)(hb:b<256):
 LsW w 5 [(2,.c (.int .u8 a)),(3,.c (.int .u8 b)),(9,.lp 2 0 0 0),(10,.c x.val)] [(2,.box [.c (.slice g.base g.l.length g.cap),aC g.out] 24)] (S6 w g x) 4:=by
 repeat' ((conv=>whnf)<;>first|(show cO _ 7 ..;refine mV [8] _ aiK ?_)|refine bV ?_|refine And.intro ?_ ?_)
 all_goals(repeat' ((conv=>whnf)<;>first|refine eU ?_|(show aJ _ 15 ..;refine aR (f:=15) Tryz.call15 (Em a).val (λρ w' hw=>K_ w' a ha) ?_)|(show aJ _ 9 ..;refine FN (jX g (Em a) 64) Tryz.call9 (λρ w' hw=>Ro w' g (Em a) 64 (ae hw λR h=>iO h.1.2) ab5) (λv1 h1 s1=> ?_))|refine And.intro ?_ ?_))
 all_goals(conv=>whnf)
 all_goals exact Wp.into 5 [] (afe w g x hgood hxs b hb (Em a) _ fw fw) ay ⟨rfl,rfl⟩ ⟨rfl,⟨rfl,rfl,rfl,rfl,rfl,trivial⟩,fE,λR w' h=>h⟩
theorem YL(w:World)(t d:gF)(ht:t.raw w)(hd:d.raw w)(a b:Nat)(ha:a<256)(hb:b<256):Calls Tryz.prog 6 #[t.val,d.val,.int .u8 a,.int .u8 b] w λe w'=>e= .returned (.bool true)/\Ext w w':=by
 by_cases am8:t.bs.length<=300/\d.bs.length<=300
 ·obtain⟨ht3,hd3⟩:=am8
  refine fH Tryz.func6 [.c t.val,.c d.val,.c (.int .u8 a),.c (.int .u8 b)] ?_
  repeat' ((conv=>whnf)<;>first|(show aJ _ 7 ..;refine aR (f:=7) Tryz.call7 (.bool true) (λρ w' hw=>K3 w') ?_)|refine bV ?_|refine ag ?_ ?_<;>intro _)
  refine Zo (f:=12) t 0 aj Tryz.call12 aa ht.fits (Nat.zero_le _) (λR w' h=>NV ht h) (λw' b htk=>afz w' b t 0 htk) (λl out k' hml h8 ho0 ho1=> ?_)
  obtain⟨sh,hsh,hck⟩:=PR hml aa
  have hl1:=hml.one
  repeat' ((conv=>whnf)<;>first|fail)
  all_goals(conv=>whnf)
  refine Wp.Vh 1 w.heap.size (k:=9) (xs:=bO l) (T:=41) aj (λR w' h b hb=>(h.1 b hb).1) (λl1 hl1=> ?_)
  have anC:∀{R:Nat->Prop} {w':World},(((aU w).and ((m_ l).past w.heap.size)).and ((f_ l1.base 9 (bO l)).past w.heap.size)).holds R w'->(⟨l1.base,l1.cap,l,out⟩:bM).ok w':=λh=>WY hml.each aa (bf h.2) ((m_ l).mono h.1.2 (λb hb=>hb.1)) ⟨by omega,by omega⟩
  repeat' ((conv=>whnf)<;>first|refine bV ?_)
  refine Yp (f:=13) d 0 l1.base l1.cap l out aj Tryz.call13 aa hd.fits (Nat.zero_le _) (λR w' h=>NV hd h.1.1) aa (λR w' h=>(f_ _ _ _).mono h.2 (λb hb=>hb.1)) (λR w' h=>(m_ l).mono h.1.2 (λb hb=>hb.1)) (Sm hml aa) (λw' b htk hr hnd=>Y8 w' b d 0 htk l1.base l1.cap l out aa hr hnd (Sm hml aa)) (λx k2 hx=> ?_)
  repeat' ((conv=>whnf)<;>first|fail)
  all_goals(conv=>whnf)
  all_goals exact Wp.into 4 [] (age w ⟨l1.base,l1.cap,l,out⟩ x hx.good hx.bF a b ha hb) ay ⟨rfl,rfl⟩ ⟨rfl,⟨rfl,rfl,rfl,rfl,trivial⟩,⟨aj,trivial⟩,λR w' h=>⟨⟨h.1.1.1,CZ h λ_ _ h=>anC h.1⟩,h.2⟩⟩
 ·refine fH Tryz.func6 [.c t.val,.c d.val,.c (.int .u8 a),.c (.int .u8 b)] ?_
  repeat' ((conv=>whnf)<;>first|refine bn ?_|(show aJ _ 7 ..;refine aR (f:=7) Tryz.call7 (.bool true) (λρ w' hw=>K3 w') ?_)|refine bV ?_|refine ag ?_ ?_<;>intro _)
  all_goals(conv=>whnf)
  all_goals first|(exfalso;omega)|exact bq (λ_ _ h=>h) rfl rfl
open Go.ChangeShapes Go.WideShapes Go.ChangeAt
theorem an2:ownKnob Tryz.prog.godebug=none:=by kernel_rfl
theorem af3:laidOutB Tryz.prog=true:=by kernel_rfl
theorem Df{H:Type}{enc:TypeId×Value->H}{P:Program}{w:World}{t:TypeId}{Q:List Value->Prop}{base:Nat}{sp:Nat->Bool}{held:Bool}{v:Value}{d:DataW H}{ps:List MemPlace}(h:H9 P w t Q)(ht:DataW.Trod enc P w base sp held t v d ps):Q v.cells.toList:=by
 obtain⟨n,hn⟩:=ht
 exact h.out enc base sp held n _ _ hn
structure ax.alx(w:World)(v:ax):Prop where
 rows:bE w v.base 1 (aZ v.xs)
 fits:∀x∈v.xs,-9223372036854775808<=x/\x<=9223372036854775807
 room:v.xs.length<=v.cap
theorem ax.alx.ok{w:World}{v:ax}(h:v.alx w)(hf:v.xs.length<=1000000):v.ok w:=⟨h.rows,h.fits,h.room,hf⟩
end Go.Proofs.YtgndjjdeopfdkaaGreat
