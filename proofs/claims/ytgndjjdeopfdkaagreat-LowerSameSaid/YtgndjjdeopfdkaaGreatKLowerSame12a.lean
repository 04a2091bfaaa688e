import Derived.Test.YtgndjjdeopfdkaaGreatKLowerSame11
/- texts WJ VA of the proof of LowerSameSaid -/
set_option maxHeartbeats 16000000
set_option maxRecDepth 20000
set_option linter.unusedVariables false
set_option linter.unusedSimpArgs false
namespace Go.Proofs.YtgndjjdeopfdkaaGreat
open Go.SX Go.RowKit
section
abbrev alf:DT:=(bS [0,1,2,3,4,5,6,7,8,9,110,11] .done)
abbrev alU:DT:=(bS [0,1,2,3,4,5,6,7,8,9,10,11,12,13,14,15,16,117,18,119] .done)
structure za(w:World)(b:Nat)(v:l7)(t n:Nat)(ins:aY)(kb:Option Addr)(kc:Nat)(us:List ax):Prop where
 at_:r_ v t ins (.slice kb us.length kc) b w
 aA:v.aA=n
 n2:4<=n/\n<=2048
 t2:0<t/\t<=1073741824
 xm:bE w v.aF.base 1 (bA v.aF.l)
 aF:∀u∈v.aF.l,u.ok w/\u.xs.length=n
 tO:bE w v.ib 3 (mq v.inputs)
 inputs:∀x∈v.inputs,x.aA.ok w/\Sl n x.aA.xs
 xh:bE w ins.base 1 (bA ins.l)
 alY:∀u∈ins.l,u.ok w
 mat:Fh (v.inputs.map nN.pl) (ins.l.map ax.xs)
 Ck:bE w kb 1 (bA us)
 known:∀u∈us,bE w u.base 1 (eT u.xs)/\u.xs.length<=u.cap/\u.xs.length=n/\∀x∈u.xs,0<=x/\x<t
def Wm(x:jf):Value:= .agg #[.int .i64 x.op,.int .i64 x.KD,.int .i64 x.a,.int .i64 x.b,.int .i64 x.k]
variable {k:Nat} {u:ax}
theorem oQ{l:List ax}(h:l[k]? =some u):(bA l)[k]? =some [u.val]:=by
 unfold bA;rw[List.getElem?_map,h];rfl
variable {w:World} {b t kc:Nat} {v:l7} {ins:aY} {kb:Option Addr} {us:List ax}
theorem FQ{n:Nat}(h:za w b v t n ins kb kc us)(x:jf)(hk:x.k=k)(hu:v.aF.l[k]? =some u):
 Calls Tryz.prog 96 #[.pointer (some ⟨b,0,none⟩),Wm x] w (og w ((List.range n).map λk=>u.xs.getD k 0%t)):=by
 have hkl:=(List.getElem?_eq_some_iff.1 hu).1
 obtain⟨pa,Gm⟩:∃a,v.aF.base=some a:=aT (j:=k) h.xm AX
 obtain⟨Lx,I4⟩:=h.aF u (List.mem_of_getElem? hu)
 have hn2:=h.n2
 refine fH Tryz.func96 [.c (.pointer (some ⟨b,0,none⟩)),.agg [aC x.op,aC x.KD,aC x.a,aC x.b,aC x.k]] ?_
 repeat' ((conv=>whnf)<;>first|(show cO _ 1 ..;refine mV [] _ alf ?_)|(show gZ ..;(first|refine rD h.at_ (j:=2) (λR w' h=>h) rfl ?_|refine bN (λR w' hR=>by rw[<-Gm];exact aH hR h.xm) _ _ (j:=k) (oQ hu) rfl ?_))|(show dn ..;refine aM pa k Gm hk hkl ?_)|(show aJ _ 141 ..;refine jy Tryz.call141 1 59 (λ_:Unit=>eT ((List.range n).map λk=>u.xs.getD k 0%t)) (λ_=>True) (λρ w' hw=>((aeG w' b v t n ins _ (ae hw λR hR=>h.at_.later hR) h.aA aa h.t2.1 h.t2.2 u (ae hw λR hR=>Lx.later hR) I4).mono λe w2 he=>⟨(),trivial,he⟩)) (λ_ _=> ?_))|refine bV ?_)
 all_goals(conv=>whnf)
 all_goals exact gT (λ_ _ h=>h) rfl List.mem_cons_self rfl
theorem V8(f:Nat->Int):∀(a b:List Int) (e:Nat) (row:List Int),l9 f (a++b) e row=l9 f b (e+a.length) (l9 f a e row)
 |[],b,e,row=>by simp[l9]
 |x::a,b,e,row=>by
  show l9 f (a++b) (e+1) _=_
  rw[V8 f a b,List.length_cons,show e+1+a.length=e+(a.length+1) by omega];rfl
theorem ZG(f:Nat->Int){l:List Int}{e:Nat}(he:e<l.length)(row:List Int):l9 f (l.take (e+1)) 0 row=(l9 f (l.take e) 0 row).set (l.getD e 0).toNat (f e):=by
 rw[List.take_succ_eq_append_getElem he,V8,Nat.zero_add,List.length_take,Nat.min_eq_left aa,getD_at he];rfl
theorem Cy{l:List nN}{x:nN}(h:l[k]? =some x):(mq l)[k]? =some x.cells:=by
 unfold mq;rw[List.getElem?_map,h];rfl
theorem Fh.at_:∀{a:List BZ} {b:List (List Int)} {k:Nat} {x:BZ} {y:List Int},Fh a b->a[k]? =some x->b[k]? =some y->y.length=x.aA.length
 |[],_,_,_,_,_,h,_=>by simp at h
 |_::_,[],_,_,_,h,_,_=>h.elim
 |p::a,q::b,0,x,y,h,h1,h2=>by
  obtain rfl:p=x:=by simpa using h1
  obtain rfl:q=y:=by simpa using h2
  exact h.1
 |p::a,q::b,k+1,x,y,h,h1,h2=>Fh.at_ h.2 (by simpa using h1) (by simpa using h2)
theorem Zb{n:Nat}(h:za w b v t n ins kb kc us)(x:jf)(hk:x.k=k){y:nN}(hy:v.inputs[k]? =some y)(hu:ins.l[k]? =some u):
 Calls Tryz.prog 97 #[.pointer (some ⟨b,0,none⟩),Wm x] w (og w (bU n y.aA.xs λe=>u.xs.getD e 0%t)):=by
 have hkl:=(List.getElem?_eq_some_iff.1 hy).1
 have ak8:=(List.getElem?_eq_some_iff.1 hu).1
 obtain⟨ia,hia⟩:∃a,v.ib=some a:=aT (j:=k) h.tO (by rw[lJ];exact hkl)
 obtain⟨na,hna⟩:∃a,ins.base=some a:=aT (j:=k) h.xh (by rw[bz];exact ak8)
 obtain⟨hys,hyl⟩:=h.inputs y (List.mem_of_getElem? hy)
 have Lx:=h.alY u (List.mem_of_getElem? hu)
 have ug:=hys.few
 have hlen:u.xs.length=y.aA.xs.length:=h.mat.at_ (k:=k) (x:=y.pl) (by rw[List.getElem?_map,hy];rfl) (by rw[List.getElem?_map,hu];rfl)
 obtain⟨n4,n2⟩:=h.n2
 obtain⟨t1,t2⟩:=h.t2
 refine fH Tryz.func97 [.c (.pointer (some ⟨b,0,none⟩)),.agg [aC x.op,aC x.KD,aC x.a,aC x.b,aC x.k]] ?_
 repeat' ((conv=>whnf)<;>first|(show gZ ..;(first|refine rD h.at_ (j:=0) (λR w' h=>h) rfl ?_|refine rD h.at_ (j:=1) (λR w' h=>h) rfl ?_|refine Us (λR w' hR=>by rw[<-hia];exact aH hR h.tO) _ _ (Cy hy) (f:=2) rfl ?_))|(show dn ..;refine aM ia k hia hk hkl ?_)|(show pg ..;(refine lD n h.aA h.aA AB aa ?_))|refine bV ?_)
 refine Wp.loop (σ:=Nat) 2 (λi=>[(0,.c (.pointer (some ⟨b,0,none⟩))),(3,.lp 0 0 0 0),(5,.os 1 n),(23,.c y.aA.val),(24,aC y.aA.xs.length),(25,aC i)]) (λi=>[(1,.rows (eT (l9 (λe=>u.xs.getD e 0%t) (y.aA.xs.take i) 0 (List.replicate n 0))) 1 59),(0,.box [aC x.op,aC x.KD,aC x.a,aC x.b,aC x.k] 43)]) (λ_=>aU w)
  (λi=>i<=y.aA.xs.length) (λi=>y.aA.xs.length-i) 0 [] ay (λ_=>⟨rfl,rfl⟩) (Nat.zero_le _) ⟨rfl,⟨rfl,rfl,rfl,rfl,rfl,rfl,trivial⟩,⟨by rw[List.take_zero];show _∈_;rw[show l9 (λe=>u.xs.getD e 0%(t:Int)) [] 0 (List.replicate n 0)=List.replicate n 0 from rfl,<-Fs];exact List.mem_cons_self,aj,trivial⟩,λR w' h=>h⟩ ?_
 rintro i hi
 by_cases hlt:i<y.aA.xs.length
 ·obtain⟨ya,hya⟩:=hys.base aa
  obtain⟨ua,rO⟩:=Lx.base aa
  have hyr:∀(R:Nat->Prop) w',(aU w).holds R w'->bE w' (some ya) 1 (aZ y.aA.xs):=λR w' hR=>by rw[<-hya];exact aH hR hys.rows
  have hur:∀(R:Nat->Prop) w',(aU w).holds R w'->bE w' (some ua) 1 (aZ u.xs):=λR w' hR=>by rw[<-rO];exact aH hR Lx.rows
  have hfit: -9223372036854775808<=u.xs.getD i 0/\u.xs.getD i 0<=9223372036854775807:=Lx.fits _ (cu aa)
  have hs:=hyl.bd _ (cu hlt)
  have hput:=A7 (λe=>u.xs.getD e 0%(t:Int)) (y.aA.xs.take i) 0 (List.replicate n 0)
  rw[List.length_replicate]at hput
  repeat' ((conv=>whnf)<;>first|refine bn ?_|(show dn ..;(first|refine aM ya i hya rfl hlt ?_|refine aM na k hna hk ak8 ?_|refine aM ua i rO rfl aa ?_))|(show gZ ..;(first|refine dP hyr (j:=i) hlt ?_|refine dP hur (j:=i) aa ?_|refine rD h.at_ (j:=7) (λR w' h=>h) rfl ?_|refine rD h.at_ (j:=6) (λR w' h=>h) rfl ?_|refine bN (λR w' hR=>by rw[<-hna];exact aH hR h.xh) _ _ (j:=k) (oQ hu) rfl ?_))|(show aJ _ 142 ..;refine aR (f:=142) Tryz.call142 (.int .u64 (u.xs.getD i 0%t)) (λρ w' _=>WZ w' _ t hfit t1 t2) ?_)|(show eP ..;(refine bY (y.aA.xs.getD i 0).toNat aa aa (by rw[eG,hput];exact Nat.le_refl _) ?_))|(show dH ..;(refine BL (by rw[hput];omega) ?_))|refine nU ?_|(show cO _ 5 ..;refine mV [19] _ alU ?_)|refine bV ?_)
  all_goals(conv=>whnf)
  all_goals exact⟨i+1,[],hlt,by show y.aA.xs.length-(i+1)<y.aA.xs.length-i;omega,rfl,fE,⟨by rw[ZG (λe=>u.xs.getD e 0%(t:Int)) hlt];exact List.mem_cons_self,aj,trivial⟩,λ_ _ h=>h⟩
 ·obtain rfl:i=y.aA.xs.length:=by omega
  repeat' ((conv=>whnf)<;>first|refine bn ?_|refine bV ?_)
  all_goals(conv=>whnf)
  all_goals exact gT (λ_ _ h=>h) rfl (show(1,b_.rows (eT (bU n y.aA.xs λe=>u.xs.getD e 0%(t:Int))) 1 59)∈_ by rw[List.take_of_length_le (Nat.le_refl _)];exact List.mem_cons_self) (by rw[eG,dA])
end
theorem acR(w:World)(y m:Nat)(hy:y<18446744073709551616)(hm:0<m):Calls Tryz.prog 145 #[.int .u64 0,.int .u64 y,.int .u64 m] w λe w'=>e= .returned (.tuple #[.int .u64 ((y/m:Nat):Int),.int .u64 ((y%m:Nat):Int)])/\Ext w w':=by
 refine fH Tryz.func145 [.c (.int .u64 0),.c (.int .u64 y),.c (.int .u64 m)] ?_
 repeat' ((conv=>whnf)<;>first|refine bn ?_|(show yM ..;refine alo ?_)|(show x8 ..;refine Yi ?_)|refine bV ?_)
 all_goals(conv=>whnf)
 all_goals exact bZ (λ_ _ h=>h) (λ_=>rfl) rfl
theorem aeY(w:World)(a b m:Nat)(ha:a<18446744073709551616)(hb:b<18446744073709551616)(hm:0<m)(hm2:m<=4294967296):Calls Tryz.prog 100 #[.int .u64 a,.int .u64 b,.int .u64 m] w λe w'=>e= .returned (.int .u64 ((a*b%m:Nat):Int))/\Ext w w':=by
 have h1:=Nat.mod_lt a hm
 have h2:=Nat.mod_lt b hm
 have h3:(a%m)*(b%m)<18446744073709551616:=Nat.lt_of_le_of_lt (Nat.mul_le_mul (show a%m<=4294967295 by omega) (show b%m<=4294967295 by omega)) ay
 have e1:(a%m)*(b%m)/18446744073709551616=0:=Nat.div_eq_of_lt h3
 have e2:(a%m)*(b%m)%18446744073709551616=(a%m)*(b%m):=Nat.mod_eq_of_lt h3
 have hmul:=λw'=>adQ w' (a%m) (b%m) aa aa
 rw[e1,e2]at hmul
 refine fH Tryz.func100 [.c (.int .u64 a),.c (.int .u64 b),.c (.int .u64 m)] ?_
 repeat' ((conv=>whnf)<;>first|refine bn ?_|(show x8 ..;refine Yi ?_)|(show jQ _ 144 ..;refine jo Tryz.call144 (.tuple #[.int .u64 ((0:Nat):Int),.int .u64 (((a%m)*(b%m):Nat):Int)]) (λρ w' _=>hmul w') ?_)|(show aJ _ 145 ..;refine aR (f:=145) Tryz.call145 (.tuple #[.int .u64 (((a%m)*(b%m)/m:Nat):Int),.int .u64 (((a%m)*(b%m)%m:Nat):Int)]) (λρ w' _=>acR w' _ m h3 hm) ?_)|refine bV ?_)
 all_goals(conv=>whnf)
 all_goals exact bZ (λ_ _ h=>h) (λ_=>by rw[<-Nat.mul_mod];rfl) rfl
section
abbrev amf:DT:=(bS [0,1,2,3,4,5,6,7,8,9,10,11,12,13,14,115,16,117] .done)
variable {w:World} {b t kc:Nat} {v:l7} {ins:aY} {kb:Option Addr} {us:List ax} {u:ax}
theorem Vv{n:Nat}(h:za w b v t n ins kb kc us)(x:jf){k:Nat}(hk:x.b=k)(hu:us[k]? =some u):
 Calls Tryz.prog 99 #[.pointer (some ⟨b,0,none⟩),Wm x] w λe w'=>e= .returned u.val/\Ext w w':=by
 have hkl:=(List.getElem?_eq_some_iff.1 hu).1
 obtain⟨pa,Gm⟩:∃a,kb=some a:=aT (j:=k) h.Ck AX
 refine fH Tryz.func99 [.c (.pointer (some ⟨b,0,none⟩)),.agg [aC x.op,aC x.KD,aC x.a,aC x.b,aC x.k]] ?_
 repeat' ((conv=>whnf)<;>first|(show gZ ..;(first|refine rD h.at_ (j:=8) (λR w' h=>h) rfl ?_|refine bN (λR w' hR=>by rw[<-Gm];exact aH hR h.Ck) _ _ (j:=k) (oQ hu) rfl ?_))|(show dn ..;refine aM pa k Gm hk hkl ?_)|refine bV ?_)
 all_goals(conv=>whnf)
 all_goals exact bZ (λ_ _ h=>h) (λ_=>rfl) rfl
structure zL(w:World)(u:ax)(t n:Nat):Prop where
 rows:bE w u.base 1 (eT u.xs)
 room:u.xs.length<=u.cap
 len:u.xs.length=n
 bd:∀x∈u.xs,0<=x/\x<t
theorem zL.later{w':World}{R:Nat->Prop}{n:Nat}(h:zL w u t n)(hb:(aU w).holds R w'):zL w' u t n:=⟨aH hb h.rows,h.room,h.len,h.bd⟩
theorem za.words{n:Nat}(h:za w b v t n ins kb kc us)(hu:u∈us):zL w u t n:=⟨(h.known u hu).1,(h.known u hu).2.1,(h.known u hu).2.2.1,(h.known u hu).2.2.2⟩
variable {xs:List Int}
theorem RQ:∀r∈eT xs,r.length=1/\∀v∈r,v.oneCell'=true:=by
 intro r hr
 obtain⟨x,_,rfl⟩:=List.mem_map.1 hr
 exact⟨rfl,λv hv=>by rw[List.mem_singleton.1 hv];rfl⟩
theorem T9{a:Addr}{j:Nat}{S:bR}{K:SV->Prop}(hx:∀R w,S.holds R w->bE w (some a) 1 (eT xs))(hj:j<xs.length)(h:K (.c (.int .u64 (xs.getD j 0)))):gZ (a.add (j*1)) S K:=
 bN hx _ _ (R6 hj) rfl h
theorem Jy{n:Nat}{kv:Value}(hm:r_ v t ins kv b w)(hn2:0<n/\n<=2048)(F:FuncId)(f:Int->Int->Int)(hF:∀ar w,(callFunc F ar).run Tryz.prog w= .ok (.enter F ar) w)
 (hf:∀(w':World) (x y:Int),(0<=x/\x<t)->(0<=y/\y<t)->Calls Tryz.prog F #[.int .u64 x,.int .u64 y,.int .u64 t] w' λe w''=>e= .returned (.int .u64 (f x y))/\Ext w' w'') (p q:ax) (hp:zL w p t n) (hq:zL w q t n):
 Calls Tryz.prog 101 #[.pointer (some ⟨b,0,none⟩),p.val,q.val,.func (.func F) #[] #[]] w (og w ((List.range n).map λk=>f (p.xs.getD k 0) (q.xs.getD k 0))):=by
 obtain⟨n1,n2⟩:=hn2
 have hpl:=hp.len
 have Tn:=hq.len
 obtain⟨pa,Gm⟩:∃a,p.base=some a:=aT (j:=0) hp.rows AC
 obtain⟨qa,hqa⟩:∃a,q.base=some a:=aT (j:=0) hq.rows AC
 have hpr:∀(R:Nat->Prop) w',(aU w).holds R w'->bE w' (some pa) 1 (eT p.xs):=λR w' h=>by rw[<-Gm];exact aH h hp.rows
 have hqr:∀(R:Nat->Prop) w',(aU w).holds R w'->bE w' (some qa) 1 (eT q.xs):=λR w' h=>by rw[<-hqa];exact aH h hq.rows
 refine fH Tryz.func101 [.c (.pointer (some ⟨b,0,none⟩)),.c (.slice p.base p.xs.length p.cap),.c (.slice q.base q.xs.length q.cap),.c (.func (.func F) #[] #[])] ?_
 repeat' ((conv=>whnf)<;>first|(show pg ..;(refine lD n aa aa AB aa ?_))|refine a_ ?_)
 refine Wp.loop (σ:=Nat) 2 (λi=>[(0,.c (.pointer (some ⟨b,0,none⟩))),(1,.c (.slice p.base p.xs.length p.cap)),(2,.c (.slice q.base q.xs.length q.cap)),(3,.c (.func (.func F) #[] #[])),(9,.os 0 n),(15,aC n),(16,aC i)]) (λi=>[(0,.rows (eT (HZ (λk=>f (p.xs.getD k 0) (q.xs.getD k 0)) n i)) 1 59)]) (λ_=>aU w)
  (λi=>i<=n) (λi=>n-i) 0 [] ay (λ_=>⟨rfl,rfl⟩) (Nat.zero_le _) ⟨rfl,⟨rfl,rfl,rfl,rfl,rfl,rfl,rfl,trivial⟩,⟨by rw[Jw,<-Fs];exact List.mem_cons_self,trivial⟩,λR w' h=>h⟩ ?_
 rintro i hi
 by_cases hlt:i<n
 ·have hlen:=Bz (λk=>f (p.xs.getD k 0) (q.xs.getD k 0)) n i
  have hc:=λw'=>hf w' (p.xs.getD i 0) (q.xs.getD i 0) (hp.bd _ (cu aa)) (hq.bd _ (cu aa))
  repeat' ((conv=>whnf)<;>first|refine bn ?_|(show dn ..;(first|refine aM pa i Gm rfl aa ?_|refine aM qa i hqa rfl aa ?_))|(show gZ ..;(first|refine T9 hpr (j:=i) aa ?_|refine T9 hqr (j:=i) aa ?_|refine rD hm (j:=6) (λR w' h=>h) rfl ?_))|(show aJ _ F ..;refine aR (f:=F) hF (.int .u64 (f (p.xs.getD i 0) (q.xs.getD i 0))) (λρ w' _=>hc w') ?_)|(show eP ..;(refine bY i rfl hlt PU ?_))|(show dH ..;(refine BL (by rw[hlen];exact hlt) ?_))|refine nU ?_|(show cO _ 5 ..;refine mV [17] _ amf ?_)|refine a_ ?_)
  all_goals(conv=>whnf)
  all_goals exact⟨i+1,[],hlt,by show n-(i+1)<n-i;omega,rfl,fE,⟨by rw[<-Nu (f:=λk=>f (p.xs.getD k 0) (q.xs.getD k 0))];exact List.mem_cons_self,trivial⟩,λ_ _ h=>h⟩
 ·obtain rfl:i=n:=by omega
  repeat' ((conv=>whnf)<;>first|refine bn ?_|refine a_ ?_)
  all_goals(conv=>whnf)
  all_goals exact gT (λ_ _ h=>h) rfl (show(0,b_.rows (eT ((List.range i).map λk=>f (p.xs.getD k 0) (q.xs.getD k 0))) 1 59)∈_ by rw[<-Jm];exact List.mem_cons_self) Mv
end
section
abbrev al1:DT:=(bS [0,1,2,5,6,7] (.alt 3 (.alt 4 (bS [108,109,10] .done) (bS [108,104,109,10] .done)) (bS [108,103,104,109,10] .done)))
theorem Zi(w:World)(u:ax)(hr:bE w u.base 1 (eT u.xs))(hs:0<u.xs.length)(hl:u.xs.length<=1000000):
 Calls Tryz.prog 143 #[u.val] w (og w u.xs):=by
 obtain⟨ab,ac,xs⟩:=u
 simp only[ax.val]at*
 obtain⟨a,rfl⟩:∃a,ab=some a:=aT (j:=0) hr (by rw[eG];exact hs)
 refine fH Tryz.func143 [.c (.slice (some a) xs.length ac)] ?_
 repeat' ((conv=>whnf)<;>first|refine ji (ti 89 rfl) rfl ?_|refine a_ ?_)
 have hil:=eG xs
 repeat' ((conv=>whnf)<;>first|refine kF (eG xs) (λR w' h=>aH h hr) RQ ?_|refine a_ ?_)
 exact gT (λ_ _ h=>h) rfl (.head _) (by simp[eG])
variable {u:ax} {w:World}
theorem PM{l h:Nat}(hr:bE w u.base 1 (eT u.xs))(h3:u.xs.length<=u.cap):bE w (cutV u l h).base 1 (eT (cutV u l h).xs):=by
 have:=ET l (h-l) (by rw[eG];exact h3) hr
 rwa[show((eT u.xs).drop l).take (h-l)=eT ((u.xs.drop l).take (h-l)) by simp[eT,List.map_drop,List.map_take]]at this
theorem acr{b:Nat}{v:l7}{t n:Nat}{ins:aY}{kb:Option Addr}{kc:Nat}{us:List ax}(h:za w b v t n ins kb kc us)(x:jf){j k:Nat}(hj:x.a=j)(hk:x.k=k)(hk0:0<k/\k<n)(hu:us[j]? =some u):
 Calls Tryz.prog 98 #[.pointer (some ⟨b,0,none⟩),Wm x] w (og w (w9 k u.xs)):=by
 have hjl:=(List.getElem?_eq_some_iff.1 hu).1
 obtain⟨pa,Gm⟩:∃a,kb=some a:=aT (j:=j) h.Ck (by rw[bz];exact hjl)
 have hw:=h.words (List.mem_of_getElem? hu)
 obtain⟨k0,k1⟩:=hk0
 obtain⟨n4,n2⟩:=h.n2
 have I4:=hw.len
 have c1:(cutV u k n).xs.length=n-k:=uy aa
 have c2:(cutV u 0 k).xs.length=k:=by rw[uy aa];omega
 have r1:bE w (cutV u k n).base 1 (eT (cutV u k n).xs):=PM hw.rows hw.room
 have r2:bE w (cutV u 0 k).base 1 (eT (cutV u 0 k).xs):=PM hw.rows hw.room
 obtain⟨ca,hca⟩:∃a,(cutV u 0 k).base=some a:=aT (j:=0) r2 AC
 have r3:∀(R:Nat->Prop) w',(aU w).holds R w'->bE w' (some ca) 1 (eT (cutV u 0 k).xs):=λR w' hR=>by rw[<-hca];exact aH hR r2
 have amc:eT (cutV u k n).xs++eT (cutV u 0 k).xs=eT (w9 k u.xs):=by
  have e1:(cutV u k n).xs=u.xs.drop k:=by show(u.xs.drop k).take (n-k)=_;rw[List.take_of_length_le zW]
  have e2:(cutV u 0 k).xs=u.xs.take k:=by show(u.xs.drop 0).take (k-0)=_;rw[List.drop_zero,Nat.sub_zero]
  rw[e1,e2];simp[eT,w9]
 have hsl1:∀{K:SV->Prop},K (.c (cutV u k n).val)->ny u.base u.xs.length u.cap 1 (some x.k) none none K:=λ{K} hK=>kS (l:=k) (h:=n) hk (by show n=_;omega) aa aa hw.room hK
 have hsl2:∀{K:SV->Prop},K (.c (.slice (some ca) k (cutV u 0 k).cap))->ny u.base u.xs.length u.cap 1 none (some x.k) none K:=λ{K} hK=>kS (l:=0) (h:=k) rfl hk aa aa hw.room (by
  have e:(cutV u 0 k).val= .slice (some ca) k (cutV u 0 k).cap:=by unfold ax.val;rw[hca,c2]
  rw[e];exact hK)
 have hcl:∀w',bE w' (cutV u k n).base 1 (eT (cutV u k n).xs)->Calls Tryz.prog 143 #[(cutV u k n).val] w' (og w' (cutV u k n).xs):=λw' hr=>Zi w' _ hr aa aa
 have c1u:(eT (cutV u k n).xs).length=n-k:=by rw[eG,c1]
 have c2u:(eT (cutV u 0 k).xs).length=k:=by rw[eG,c2]
 refine fH Tryz.func98 [.c (.pointer (some ⟨b,0,none⟩)),.agg [aC x.op,aC x.KD,aC x.a,aC x.b,aC x.k]] ?_
 repeat' ((conv=>whnf)<;>first|(show gZ ..;(first|refine rD h.at_ (j:=8) (λR w' h=>h) rfl ?_|refine bN (λR w' hR=>by rw[<-Gm];exact aH hR h.Ck) _ _ (j:=j) (oQ hu) rfl ?_))|(show dn ..;refine aM pa j Gm hj hjl ?_)|(show tV ..;refine kF c2u r3 RQ ?_)|(show ny ..;(first|refine hsl1 ?_|refine hsl2 ?_))|(show cO _ 2 ..;refine mV [] _ al1 ?_)|(show aJ _ 143 ..;refine jy Tryz.call143 1 59 (λ_:Unit=>eT (cutV u k n).xs) (λ_=>True) (λρ w' hw=>((hcl w' (ae hw λR hR=>aH hR r1)).mono λe w2 he=>⟨(),trivial,he⟩)) (λ_ _=> ?_))|refine bV ?_|refine And.intro ?_ ?_)
 all_goals(conv=>whnf)
 all_goals exact gT (xs:=eT (w9 k u.xs)) (λ_ _ h=>h) rfl (List.mem_cons.2 (.inl (by rw[List.take_of_length_le (Nat.le_refl _),amc]))) (by rw[<-amc,List.length_append])
theorem Xq(g:Int->Int)(f:Nat->Int):∀(l:List Int) (e:Nat) (row:List Int),(l9 f l e row).map g=l9 (λe=>g (f e)) l e (row.map g)
 |[],_,_=>rfl
 |x::l,e,row=>by
  show(l9 f l (e+1) _).map g=l9 _ l (e+1) _
  rw[Xq g f l,List.map_set]
variable {g:Int->Int}
theorem Zp(hg:g 0=0)(n:Nat)(sl:List Int)(f:Nat->Int):(bU n sl f).map g=bU n sl λe=>g (f e):=by
 unfold bU
 rw[Xq,List.map_replicate,hg]
variable {l:List Int}
theorem DL{n:Nat}(hl:l.length=n)(g:Int->Int):((List.range n).map λk=>g (l.getD k 0))=l.map g:=by
 subst hl
 apply List.ext_getElem
 ·simp
 ·intro k h1 h2
  simp only[List.length_map,List.length_range]at h1
  simp[List.getD,h1]
theorem zip_map{f:Int->Int->Int}{a b:List Int}{n:Nat}(ha:a.length=n)(hb:b.length=n):((List.range n).map λk=>g (f (a.getD k 0) (b.getD k 0)))=(List.zipWith f a b).map g:=by
 apply List.ext_getElem
 ·simp[ha,hb]
 ·intro k h1 h2
  simp only[List.length_map,List.length_range]at h1
  have k1:k<a.length:=by omega
  have k2:k<b.length:=by omega
  simp[List.getD,k1,k2]
theorem zb(hg:g 0=0)(k:Nat):(l.map g).getD k 0=g (l.getD k 0):=by
 rw[List.getD_eq_getElem?_getD,List.getElem?_map,List.getD_eq_getElem?_getD]
 cases l[k]? with
 |none=>exact hg.symm
 |some x=>rfl
theorem aft(x y:Int)(t:Nat):(x%t+y%t)%(t:Int)=(x+y)%t:=(Int.add_emod x y t).symm
theorem afd(x y:Int)(t:Nat):(x%t*(y%t))%(t:Int)=(x*y)%t:=(Int.mul_emod x y t).symm
theorem X7(w:World)(x y:Int)(t:Nat)(ht:0<t/\t<=1073741824)(hx:0<=x/\x<t)(hy:0<=y/\y<t):Calls Tryz.prog 95 #[.int .u64 x,.int .u64 y,.int .u64 t] w λe w'=>e= .returned (.int .u64 ((x+y)%t))/\Ext w w':=by
 obtain⟨a,rfl⟩:∃a:Nat,x=a:=⟨x.toNat,by omega⟩
 obtain⟨b,rfl⟩:∃b:Nat,y=b:=⟨y.toNat,by omega⟩
 exact afQ w a b t ht.1 ht.2
theorem VQ(w:World)(x y:Int)(t:Nat)(ht:0<t/\t<=1073741824)(hx:0<=x/\x<t)(hy:0<=y/\y<t):Calls Tryz.prog 100 #[.int .u64 x,.int .u64 y,.int .u64 t] w λe w'=>e= .returned (.int .u64 ((x*y)%t))/\Ext w w':=by
 obtain⟨a,rfl⟩:∃a:Nat,x=a:=⟨x.toNat,by omega⟩
 obtain⟨b,rfl⟩:∃b:Nat,y=b:=⟨y.toNat,by omega⟩
 have:=aeY w a b t aa aa ht.1 aa
 rwa[show((a*b%t:Nat):Int)=((a:Int)*b)%t by rw[Int.natCast_emod,Int.natCast_mul]]at this
end
end Go.Proofs.YtgndjjdeopfdkaaGreat
