/- P3 -/
import Derived.Test.YthgenmkengbmmaaGreatDoorP2
set_option linter.all false
namespace Go.Proofs.YthgenmkengbmmaaGreatDoor.AM
open Go
open Go.Lib (decDigits)
def awA:Str:=[103,114,111,117,112,32,103,32,101,118,101,114,121,32,49,109,32,123,32,114,117,108,101,32,65,58,32,117,112,32,62,32,49,59,32,125]
def awB:Str:=[103,114,111,117,112,32,103,32,101,118,101,114,121,32,48,115,32,123,125]
def awG:aI:=⟨[103],60000,0,[⟨[65],⟨⟨[117,112],[]⟩,1,1000⟩,0,0,[]⟩]⟩
theorem PB:dM awA=([awG],36,0):=by kernel_rfl
theorem PW:dM awB=([],14,2):=by kernel_rfl
theorem Kq:dE [awG]=true:=by kernel_rfl
theorem Qn:uP [awG]=[103,114,111,117,112,32,103,32,101,118,101,114,121,32,49,109,32,123,10,32,32,114,117,108,101,32,65,58,32,117,112,32,62,32,49,59,10,125,10]:=by
 unfold uP
 rw [if_pos Kq]
 have h0:printN 1000=[49]:=by
  show decDigits 1 ++ jH 0=_
  rw [mO (by omega)]; rfl
 have h1:printD 60000=[49,109]:=by
  show decDigits 1 ++ [109] ++ []=_
  rw [mO (by omega)]; rfl
 unfold fileS groupS rlS ruleS condS
 simp only [awG,h0,h1]
 rfl
theorem rR:law11_awake=some true:=by
 unfold law11_awake
 rw [show dP ([103,114,111,117,112,32,103,32,101,118,101,114,121,32,49,109,32,123,32,114,117,108,101,32,65,58,32,117,112,32,62,32,49,59,32,125]:Str)=some ([awG],36,0) from (jY awA (by decide)).trans (by rw [PB]),
  show dP ([103,114,111,117,112,32,103,32,101,118,101,114,121,32,48,115,32,123,125]:Str)=some ([],14,2) from (jY awB (by decide)).trans (by rw [PW])]
 simp only [aD,aZ,fU,Kq,iW,Qn]
 rfl
theorem y8 {f:List aI} (h:dE f=true):OkS f:=by
 obtain ⟨h1,_,h3⟩:=cZ h
 refine ⟨by omega,fun g hg=>?_⟩
 obtain ⟨_,_,_,_,_,h6,_,h8⟩:=fR (h3 g hg)
 exact ⟨by omega,fun r hr=>O6 (h8 r hr)⟩
theorem OL {f:List aI}:fileS f=[] ↔ f=[]:=by
 rcases f with _ | ⟨g,f⟩
 ·simp [fileS]
 ·simp [fileS,groupS,jN]
theorem lE {f:List aI} (h:dE f=true):uP f=fileS f:=by unfold uP; rw [if_pos h]
theorem NS {f:List aI} (h:dE f=false):uP f=[]:=by unfold uP; rw [h]; rfl
theorem law11_FileBack_pl (f:List aI) (hf:BdF f):law11_FileBack f=some true:=by
 unfold law11_FileBack
 obtain ⟨b,hb,_⟩:=Jc f hf
 rw [rR,aD,hb,aD]
 simp only [aZ,bK,aV,bL]
 cases b
 ·rfl
 rw [aY,iW,aD]
 cases hs:dE f
 ·rw [NS hs,jY [] (by decide),aD,fU,aD,hs]
  rfl
 ·have hp:=wZ hs
  have bl:=oK (cZ hs).2.2
  have bf:=(cZ hs).1
  rw [lE hs,hp,aD,fU,aD,hs,aY]
  simp only [u4,decide_true,Bool.not_true,Bool.or_false,a6]
  rw [p8 f f (y8 hs),aD]
  simp only [decide_true,aY]
  have he:(decide (fileS f=[]) == decide ((f.length:Int)=0))=true:=by
   rw [beq_iff_eq,decide_eq_decide,OL,← List.length_eq_zero_iff]; omega
  rw [he,aY]
  by_cases h0:f=[]
  ·subst h0; rfl
  ·rw [if_neg (by have:=List.length_pos_iff.2 h0; omega)]
   obtain ⟨f',g,rfl⟩:∃ f' g,f=f' ++ [g]:=⟨f.dropLast,f.getLast h0,(List.dropLast_concat_getLast h0).symm⟩
   have e:fileS (f' ++ [g])=(fileS f' ++ headS g) ++ [125,10]:=by
    rw [u0]
    simp only [fileS,List.append_nil,Ad,List.append_assoc]
   have el:(fileS (f' ++ [g])).length=(fileS f' ++ headS g).length + 2:=by rw [e,List.length_append]; rfl
   rw [el]
   rw [bF (by omega),aP (by omega)]
   rw [show ((((fileS f' ++ headS g).length + 2:Nat):Int) - 2).toNat=(fileS f' ++ headS g).length by omega,e,List.take_left',Int.toNat_zero,List.drop_zero,Mp hs,aD]
   ·simp [jV]
   ·rfl
theorem law11_FileOnce_pl (s:Str) (hs:s.length≤9223372036854775807):law11_FileOnce s=some true:=by
 unfold law11_FileOnce
 rw [rR,aD]
 simp only [aZ,bK,aV,bL]
 by_cases hl:(5000:Int) < (s.length:Int)
 ·rw [if_pos hl]
 rw [if_neg hl,jY s (by omega),aD]
 obtain ⟨p1,p2⟩:=sN s
 generalize dM s=z at *
 obtain ⟨f,n,e⟩:=z
 simp only at p1 p2 ⊢
 by_cases he:e=0
 ·rw [if_pos he]
  obtain ⟨k1,k2⟩:=p1 he
  have hp:=wZ k2
  rw [iW,aD,lE k2,hp,aD]
  simp only [k1,decide_true,jV,Bool.and_self,aY,fU,aD,k2]
  rw [p8 f f (y8 k2),aD]
  simp only [decide_true,aY]
  rw [iW,aD,lE k2]
  simp
 ·rw [if_neg he]
  obtain ⟨k1,k2,k3,k4⟩:=p2 he
  subst k1
  simp only [List.length_nil,jV,decide_eq_true k2,decide_eq_true k3]
  rw [show (decide (((0:Nat):Int)=0))=true from rfl]
  simp only [Bool.and_self,aY]
  congr 1
  rw [beq_iff_eq,decide_eq_decide]
  exact k4
end Go.Proofs.YthgenmkengbmmaaGreatDoor.AM
namespace Go.Proofs.YthgenmkengbmmaaGreatDoor.AM
open Go
theorem Po {a b:List aI} (ha:dE a=true) (hb:dE b=true) (h:fileS a=fileS b):a=b:=by
 have h1:=wZ ha
 rw [h,wZ hb] at h1
 simp only [Option.some.injEq,Prod.mk.injEq] at h1
 exact h1.1.symm
theorem law11_FileApart_pl (a b:List aI) (ha:BdF a) (hb:BdF b):law11_FileApart a b=some true:=by
 unfold law11_FileApart
 obtain ⟨x,hx,hxs⟩:=Jc a ha
 obtain ⟨y,hy,hys⟩:=Jc b hb
 rw [rR,aD,hx,aD]
 simp only [aZ,fY,bK,aV,bL,G5]
 cases x
 ·rfl
 rw [aY,hy,aD]
 cases y
 ·rfl
 rw [aY,fU,aD]
 cases h1:dE a
 ·rfl
 rw [aY,fU,aD]
 cases h2:dE b
 ·rfl
 have l1:=(cZ h1).1
 have l2:=(cZ h2).1
 have b1:=oK (cZ h1).2.2
 have b2:=oK (cZ h2).2.2
 rw [aY,aP (by simp; omega),aP (by simp; omega),aY]
 rw [iW,aD,iW,aD,lE h1,lE h2,p8 a b (y8 h1),aD]
 rw [show (decide (fileS a=fileS b) == decide (a=b))=true from by
  rw [beq_iff_eq,decide_eq_decide]
  exact ⟨Po h1 h2,fun h=>by rw [h]⟩,aY,fU,aD]
 simp only [List.nil_append]
 cases h3:dE (a ++ b)
 ·rfl
 ·simp only [aY,iW,aD,lE h1,lE h2,lE h3]
  rw [aP (by omega),u0]
  simp
theorem Hf {i n:Int} (h0:0≤i) (hn:0 < n):0≤Int.tmod i n∧Int.tmod i n < n:=⟨Int.tmod_nonneg n h0,Int.tmod_lt_of_pos i hn⟩
theorem Ro {r:aR} (hr:eI r=true):dE [⟨[103],1000,0,[r]⟩]=true:=by
 have hg:dN ⟨[103],1000,0,[r]⟩=true:=H8 (by decide) (by decide) (by decide) (by decide) (by decide) (by simp) (by simp [lM,jI,hr,tL])
 simp [dE,mD,jI,hg,pJ]
theorem law11_FileRules_pl (f:List aI) (i k j:Int) (hf:BdF f):law11_FileRules f i k j=some true:=by
 unfold law11_FileRules
 obtain ⟨x,hx,hxs⟩:=Jc f hf
 rw [rR,aD,hx,aD]
 simp only [aZ,fY,bK,aV,bL,Jj,qJ]
 cases x
 ·rfl
 rw [aY,fU,aD]
 cases h1:dE f
 ·rfl
 obtain ⟨l1,g1,g2⟩:=cZ h1
 simp only [Bool.not_true,cond_false]
 by_cases h0:(f.length:Int)=0
 ·rw [decide_eq_true h0]; rfl
 rw [decide_eq_false h0,a6,aP h0]
 have bi:=Hh (a:=i) (b:=65535) (by omega) (by omega)
 have bk:=Hh (a:=k) (b:=65535) (by omega) (by omega)
 have bj:=Hh (a:=j) (b:=65535) (by omega) (by omega)
 have m1:=Hf (n:=(f.length:Int)) bi.1 (by omega)
 obtain ⟨p,hp⟩:=Int.eq_ofNat_of_zero_le m1.1
 rw [hp] at m1 ⊢
 have hpl:p < f.length:=by omega
 have hg:=g2 _ (fN hpl)
 rw [bB (bO hpl)]
 generalize nth f p=g at *
 obtain ⟨q1,q2,q3,q4,q5,q6,q7,q8⟩:=fR hg
 by_cases hr0:(g.Rules.length:Int)=0
 ·rw [if_pos hr0]
 rw [if_neg hr0,aP hr0]
 have m2:=Hf (n:=(g.Rules.length:Int)) bk.1 (by omega)
 obtain ⟨u,hu⟩:=Int.eq_ofNat_of_zero_le m2.1
 rw [hu] at m2 ⊢
 have hul:u < g.Rules.length:=by omega
 have hr:=q8 _ (fN hul)
 rw [bB (bO hul)]
 generalize nth g.Rules u=r at *
 have ho:=Ro hr
 rw [iW,aD,lE ho,aP hr0]
 have m3:=Hf (n:=(g.Rules.length:Int)) bj.1 (by omega)
 obtain ⟨v,hv⟩:=Int.eq_ofNat_of_zero_le m3.1
 rw [hv] at m3 ⊢
 have hvl:v < g.Rules.length:=by omega
 have hvm:=fN hvl
 rw [bB (bO hvl)]
 generalize nth g.Rules v=w at *
 rw [aP (by simp; omega),aP (by simp; omega),aP (by simp; omega),aY,xI,aD,hr,aY,vM,aD,Dk hr]
 have hlen:=zF hr
 rw [aP (by simp; omega),aP (by simp; omega)]
 have e1:fileS [(⟨[103],1000,0,[r]⟩:aI)]=([103,114,111,117,112,32,103,32,101,118,101,114,121,32,49,115,32,123,10,32,32]:Str) ++ ruleS r ++ [10,125,10]:=by
  have hd:printD 1000=[49,115]:=by
   show Go.Lib.decDigits 1 ++ [115] ++ []=_
   rw [mO (by omega)]; rfl
  simp [fileS,groupS,jN,j8,optS,rlS,hd]
 rw [e1]
 simp only [if_true,fU,aD,Rr]
 have e2:dE [(⟨g.Name,g.Interval,g.Offset,([] ++ g.Rules) ++ [w]⟩:aI)]=false:=by
  have:dN ⟨g.Name,g.Interval,g.Offset,g.Rules ++ [w]⟩=false:=by
   unfold dN
   rw [EI,show tL g.Rules w.Name=true from List.any_eq_true.2 ⟨w,hvm,by simp⟩]
   simp
  simp [dE,mD,jI,this]
 have e3:dE [(⟨[103],1000,0,[r]⟩:aI),⟨[103],1000,0,[r]⟩]=false:=by
  have hg1:dN ⟨[103],1000,0,[r]⟩=true:=(cZ ho).2.2 _ (by simp)
  unfold dE mD
  simp only [jI,hg1,pJ,List.nil_append,List.any_cons,List.any_nil,decide_true,Bool.true_or,Bool.or_false,Bool.not_true,Bool.and_false,Bool.false_and]
 rw [e2,a6,e3]
 rfl
theorem Dd:∀ (n m:Nat) (acc:List aI) (t:List Kt),t.length < n→t.length < m→cU n acc t=cU m acc t
 | 0,_,_,_,h,_=>by omega
 | _ + 1,0,_,_,_,h=>by omega
 | n + 1,m + 1,acc,t,h1,h2=>by
  unfold cU
  split
  ·rfl
  ·have hf:=l7 acc t
   cases hr:i6 acc t with
   | er u e=>rfl
   | ok g u=>
    have:=(hf.ok g u hr).1
    exact Dd n m _ u (by omega) (by omega)
theorem Dx:∀ (n:Nat) (acc:List aI) (ks:List Kt) (a:List aI) (u:List Kt),ks.length < n→cU n acc ks=.ok a u→∀ (x:List Kt) (m m2:Nat),(ks ++ x).length < m→x.length < m2→cU m acc (ks ++ x)=cU m2 a x
 | 0,_,_,_,_,h,_=>by omega
 | n + 1,acc,ks,a,u,hn,h=>by
  intro x m m2 hm hm2
  unfold cU at h
  split at h
  ·rename_i h0
   cases h
   subst h0
   exact Dd m m2 acc x (by simpa using hm) hm2
  ·rename_i h0
   have hf:=l7 acc ks
   cases hr:i6 acc ks with
   | er v e=>rw [hr] at h; cases h
   | ok g v=>
    rw [hr] at h
    simp only at h
    obtain ⟨h3,⟨p,b⟩,q1,q2,q3⟩:=hf.ok g v hr
    have hmore:=Eu (a2:=acc) x hr
    rw [if_neg (by omega),q2] at hmore
    simp only [Bool.false_eq_true,if_false] at hmore
    obtain ⟨m,rfl⟩:∃ k,m=k + 1:=⟨m - 1,by omega⟩
    rw [List.length_append] at hm
    conv=>lhs; unfold cU
    rw [if_neg (by intro e; exact h0 (List.append_eq_nil_iff.1 e).1),hmore]
    simp only
    exact Dx n (acc ++ [g]) v a u (by omega) h x m m2 (by rw [List.length_append]; omega) hm2
theorem Es:∀ (n:Nat) (acc:List aI) (t:List Kt) (b:List aI) (u:List Kt),cU n acc t=.ok b u→∃ c,b=acc ++ c
 | 0,_,_,_,_,h=>by cases h
 | n + 1,acc,t,b,u,h=>by
  unfold cU at h
  split at h
  ·cases h; exact ⟨[],by simp⟩
  ·cases hr:i6 acc t with
   | er v e=>rw [hr] at h; cases h
   | ok g v=>
    rw [hr] at h
    obtain ⟨c,hc⟩:=Es n _ v b u h
    exact ⟨g :: c,by rw [hc,List.append_assoc]; rfl⟩
theorem AO:∀ (n:Nat) (b0:List aI) (kt:List Kt) (b:List aI) (w:List Kt),kt.length < n→cU n b0 kt=.ok b w→∀ a:List aI,dE (a ++ b0)=true →
  (dE (a ++ b)=true∧cU n (a ++ b0) kt=.ok (a ++ b) []) ∨ (dE (a ++ b)=false∧∃ u e p,cU n (a ++ b0) kt=.er u e∧(e=4 ∨ e=6)∧kt=p ++ u∧u ≠ [])
 | 0,_,_,_,_,h,_=>by omega
 | n + 1,b0,kt,b,w,hn,h=>by
  intro a hab
  unfold cU at h ⊢
  split at h
  ·rename_i h0
   cases h
   left
   rw [if_pos h0]
   exact ⟨hab,rfl⟩
  ·rename_i h0
   rw [if_neg h0]
   have hf:=l7 b0 kt
   cases hr:i6 b0 kt with
   | er v e=>rw [hr] at h; cases h
   | ok g v=>
    rw [hr] at h
    simp only at h
    obtain ⟨h3,⟨p,hp⟩,q1,q2,q3⟩:=hf.ok g v hr
    have hmore:=Eu (a2:=a ++ b0) [] hr
    simp only [List.append_nil] at hmore
    obtain ⟨c,hc⟩:=Es n _ v b w h
    have hab':a ++ b=(a ++ b0) ++ g :: c:=by rw [hc]; simp
    obtain ⟨y,hy⟩:=Cb h0
    have ht:kt.tail ≠ []:=by
     intro e
     rw [e] at hy
     have:=congrArg List.length hy
     simp at this; omega
    by_cases h16:16≤(a ++ b0).length
    ·right
     rw [if_pos h16] at hmore
     rw [hmore]
     refine ⟨?_,kt,4,[],rfl,.inl rfl,rfl,h0⟩
     rw [hab']
     unfold dE
     rw [decide_eq_false (by rw [List.length_append,List.length_cons]; omega)]; rfl
    ·rw [if_neg h16] at hmore
     cases hh:pJ (a ++ b0) g.Name
     ·rw [hh] at hmore
      simp only [Bool.false_eq_true,if_false] at hmore
      rw [hmore]
      simp only
      have hb':dE (a ++ (b0 ++ [g]))=true:=by
       obtain ⟨k1,k2,_⟩:=cZ hab
       rw [← List.append_assoc]
       unfold dE
       rw [Ds,k2,q1,hh,decide_eq_true (by rw [List.length_append,List.length_cons,List.length_nil]; omega)]; rfl
      rcases AO n (b0 ++ [g]) v b w (by omega) h a hb' with ⟨k1,k2⟩ | ⟨k1,u,e,p2,k2,k3,k4,k5⟩
      ·left; exact ⟨k1,by rw [List.append_assoc]; exact k2⟩
      ·right; exact ⟨k1,u,e,p ++ p2,by rw [List.append_assoc]; exact k2,k3,by rw [hp,k4,List.append_assoc],k5⟩
     ·right
      rw [hh] at hmore
      simp only [if_true] at hmore
      rw [hmore]
      refine ⟨?_,kt.tail,6,[y],rfl,.inr rfl,hy,ht⟩
      cases hx:dE (a ++ b)
      ·rfl
      ·rw [hab'] at hx
       have:=(t8 (cZ hx).2.1).2
       rw [hh] at this; cases this
theorem H9 {s:Str} (h:(dM s).2.2=0):(eK s).2.2=0∧qD ((eK s).1.map kv)=.ok (dM s).1 []:=by
 unfold dM at h ⊢
 by_cases h0:(eK s).2.2=0
 ·rw [if_pos h0] at h ⊢
  refine ⟨h0,?_⟩
  obtain ⟨k1,k2⟩:=xZ (((eK s).1.map kv).length + 1) [] ((eK s).1.map kv) (by omega) (by decide)
  unfold qD at h ⊢
  cases hr:cU (((eK s).1.map kv).length + 1) [] ((eK s).1.map kv) with
  | ok f u=>rw [(k2 f u hr).1]; rfl
  | er u e=>rw [hr] at h; exact absurd h (k1 u e hr).2.2.2
 ·rw [if_neg h0] at h
  exact absurd h h0
theorem M9 {s t:Str} (hs:(dM s).2.2=0) (ht:(dM t).2.2=0):(dE ((dM s).1 ++ (dM t).1)=true∧dM (s ++ 10 :: t)=((dM s).1 ++ (dM t).1,((s ++ 10 :: t).length:Int),0)) ∨
  (dE ((dM s).1 ++ (dM t).1)=false∧∃ n e:Int,dM (s ++ 10 :: t)=([],n,e)∧(e=4 ∨ e=6)∧(s.length:Int) < n):=by
 obtain ⟨s1,s2⟩:=H9 hs
 obtain ⟨t1,t2⟩:=H9 ht
 have fa:=((sN s).1 hs).2
 generalize (dM s).1=a at *
 generalize (dM t).1=b at *
 obtain ⟨l,j1,j2,j3,j4⟩:=Pd s1 t1
 have e0:dM (s ++ 10 :: t)=Fu ((eK s).1 ++ l) ((s ++ 10 :: t).length:Int) (qD (((eK s).1 ++ l).map kv)):=by
  unfold dM; rw [if_pos j2,j1]
 rw [e0,List.map_append]
 have e1:qD ((eK s).1.map kv ++ l.map kv)=cU ((l.map kv).length + 1) a (l.map kv) :=
  Dx _ [] _ a [] (by omega) s2 (l.map kv) _ _ (by omega) (by omega)
 rw [e1]
 rw [← j3] at t2
 unfold qD at t2
 have:=AO _ [] (l.map kv) b [] (by omega) t2 a (by simpa using fa)
 rw [List.append_nil] at this
 rcases this with ⟨k1,k2⟩ | ⟨k1,u,e,p,k2,k3,k4,k5⟩
 ·left; rw [k2]; exact ⟨k1,rfl⟩
 ·right
  rw [k2]
  refine ⟨k1,_,e,rfl,k3,?_⟩
  have hl:=congrArg List.length k4
  rw [List.length_map,List.length_append] at hl
  have hu:0 < u.length:=List.length_pos_iff.2 k5
  unfold xD
  have hp:iA ((eK s).1 ++ l) u=(((eK s).1.length + p.length:Nat):Int):=by
   unfold iA; rw [List.length_append]; omega
  rw [hp,if_pos (by rw [List.length_append]; omega),Int.toNat_natCast]
  have hn:nth ((eK s).1 ++ l) ((eK s).1.length + p.length)=nth l p.length:=by
   have h1:=bO (show (eK s).1.length + p.length < ((eK s).1 ++ l).length by rw [List.length_append]; omega)
   rw [List.getElem?_append_right (by omega),Nat.add_sub_cancel_left,bO (show p.length < l.length by omega)] at h1
   exact (Option.some.inj h1).symm
  rw [hn]
  exact j4 _ (fN (by omega))
theorem law11_FileJoin_pl (s t:Str) (hs:s.length≤9223372036854775807) (ht:t.length≤9223372036854775807):law11_FileJoin s t=some true:=by
 unfold law11_FileJoin
 rw [rR,aD]
 simp only [aZ,fY,bK,aV,bL,u4,G5]
 by_cases l1:(2500:Int) < (s.length:Int)
 ·rw [decide_eq_true l1]; rfl
 by_cases l2:(2500:Int) < (t.length:Int)
 ·rw [decide_eq_true l2,Bool.or_true]; rfl
 rw [decide_eq_false l1,decide_eq_false l2,Bool.or_false,a6,jY s (by omega),aD,jY t (by omega),aD]
 by_cases h1:(dM s).2.2=0
 ·by_cases h2:(dM t).2.2=0
  ·have f1:=cZ ((sN s).1 h1).2
   have f2:=cZ ((sN t).1 h2).2
   have hj:=M9 h1 h2
   rw [h1,h2]
   simp only [decide_true,Bool.not_true,Bool.or_false,a6]
   have b1:=f1.1
   have b2:=f2.1
   rw [aP (by simp; omega),aP (by simp; omega),aP (by simp; omega),aP (by simp; omega)]
   rw [show (s ++ [10]) ++ t=s ++ 10 :: t by simp,jY _ (by rw [List.length_append,List.length_cons]; omega),aD,fU,aD,List.nil_append]
   rcases hj with ⟨k1,k2⟩ | ⟨k1,n,e,k2,k3,k4⟩
   ·rw [k1,k2]
    simp only [aY,decide_true,jV,Bool.and_self]
    rw [p8 _ _ (y8 k1),aD]
    simp
   ·rw [k1,k2]
    simp only [a6,jV,List.length_nil,decide_eq_true k4]
    rcases k3 with rfl | rfl <;> rfl
  ·rw [decide_eq_false h2,Bool.not_false,Bool.or_true]; rfl
 ·rw [decide_eq_false h1,Bool.not_false,Bool.true_or]; rfl
end Go.Proofs.YthgenmkengbmmaaGreatDoor.AM
