/- A part of the proof: Q13. -/
import Derived.Test.YtgkmbhllcekagaaGreatDoorP2
set_option linter.all false
/- The document's example; few, short; the five laws. -/
namespace Go.Proofs.YtgkmbhllcekagaaGreatDoor.AM
open Go
open Go.Lib (decDigits)
theorem O3 {s:Str}{a:Nat}{l:List aK} (h:Lx s a l):l.length≤s.length∧∀ x ∈ l,x.S.length≤s.length:=by
  induction h with
  | nil=>exact ⟨Nat.le_refl _,fun _ h=>by cases h⟩
  | sp hc h ih=>
    simp only [List.length_cons]
    exact ⟨by omega,fun x hx=>by have:=ih.2 x hx; omega⟩
  | @run w t a l k hk hw h1 h2 h ih=>
    obtain ⟨c,w',rfl,_⟩:=hw
    simp only [List.length_cons,List.length_append]
    refine ⟨by omega,fun x hx=>?_⟩
    rcases List.mem_cons.1 hx with rfl | hx
    · simp only [List.length_cons]; omega
    · have:=ih.2 x hx; omega
  | @text v t a l h ih=>
    have hq:v.length + 2≤(cN v).length:=by
      have:=Ii v
      simp only [cN,List.length_cons,List.length_append,List.length_nil]; omega
    simp only [List.length_cons,List.length_append]
    refine ⟨by omega,fun x hx=>?_⟩
    rcases List.mem_cons.1 hx with rfl | hx
    · simp only; omega
    · have:=ih.2 x hx; omega
  | @sign w t a l hw h1 h ih=>
    obtain ⟨c,w',rfl,_⟩:=hw
    simp only [List.length_cons,List.length_append]
    refine ⟨by omega,fun x hx=>?_⟩
    rcases List.mem_cons.1 hx with rfl | hx
    · simp only [List.length_cons]; omega
    · have:=ih.2 x hx; omega
theorem LX.all {s:Str}{ks:List Kt} (h:LX s ks) (hs:s.length≤60000):∃ l,lK s=some (l,(s.length:Int),0)∧l.map kv=ks∧l.length≤s.length∧∀ x ∈ l,x.S.length≤s.length:=by
  obtain ⟨l,h1,h2⟩:=h (by omega) 0
  obtain ⟨h3,h4⟩:=O3 h1
  exact ⟨l,EV s (by omega) h1 (by omega),h2,h3,h4⟩
theorem A0 (l:List aK):tks l 0=l.map kv:=rfl
def I0:Str:=[114,117,108,101,32,68,111,119,110,58,32,40,117,112,32,61,61,32,48,41,32,102,111,114,32,51,48,48,115,32,108,97,98,101,108,115,32,123,125,59]
def awK:List Kt:=[(1,m5),(1,[68,111,119,110]),(4,[58]),(4,[40]),(1,[117,112]),(4,[61,61]),(2,[48]),(4,[41]),(1,iJ),(2,[51,48,48,115]),(1,hY),(4,[123]),(4,[125]),(4,[59])]
def awR:aZ:=⟨[68,111,119,110],⟨⟨[117,112],[]⟩,5,0⟩,300000,0,[]⟩
theorem TR:LX I0 awK:=by
  refine LX.name (s:=m5) (by decide) (Off.cons (by decide)) (LX.sp (by decide) ?_)
  refine LX.name (s:=[68,111,119,110]) (by decide) (Off.cons (by decide)) (LX.sign1 (by decide) (by decide) (LX.sp (by decide) (LX.sign1 (by decide) (by decide) ?_)))
  refine LX.name (s:=[117,112]) (by decide) (Off.cons (by decide)) (LX.sp (by decide) (LX.sign2 (c:=61) (by decide) (by decide) (LX.sp (by decide) ?_)))
  refine LX.num (c:=48) (w:=[]) (by decide) (by simp) (Off.cons (by decide)) (LX.sign1 (by decide) (by decide) (LX.sp (by decide) ?_))
  refine LX.name (s:=iJ) (by decide) (Off.cons (by decide)) (LX.sp (by decide) ?_)
  refine LX.num (c:=51) (w:=[48,48,115]) (by decide) (by decide) (Off.cons (by decide)) (LX.sp (by decide) ?_)
  refine LX.name (s:=hY) (by decide) (Off.cons (by decide)) (LX.sp (by decide) (LX.sign1 (by decide) (by decide) (LX.sign1 (by decide) (by decide) (LX.sign1 (by decide) (by decide) LX.nil))))
theorem Po:mE awK=.ok awR []:=by kernel_rfl
theorem K2:dB awR=true:=by kernel_rfl
theorem OD:jH awR=[114,117,108,101,32,68,111,119,110,58,32,117,112,32,61,61,32,48,32,102,111,114,32,53,109,59]:=by
  unfold jH
  rw [if_pos K2]
  have h0:printN 0=[48]:=by
    show decDigits 0 ++ iE 0=_
    rw [iY (by omega)]; rfl
  have h1:printD 300000=[53,109]:=by
    show decDigits 5 ++ [109] ++ []=_
    rw [iY (by omega)]; rfl
  unfold ruleS condS optS
  simp only [awR,h0,h1]
  rfl
theorem vO:law10_awake=some true:=by
  unfold law10_awake
  obtain ⟨l,h1,h2,h3,h4⟩:=TR.all (by decide)
  have hl:l.length=14:=by have:=congrArg List.length h2; rw [List.length_map] at this; exact this
  have h1':lK [114,117,108,101,32,68,111,119,110,58,32,40,117,112,32,61,61,32,48,41,32,102,111,114,32,51,48,48,115,32,108,97,98,101,108,115,32,123,125,59]=some (l,(I0.length:Int),0):=h1
  have hp:=mK l 0 ⟨by omega,fun x hx=>by have:=h4 x hx; have:I0.length=40:=rfl; omega⟩
  rw [A0,h2,Po] at hp
  rw [h1',aC]
  have hv:vT l zR (.ok awR [])=(awR,14,0):=by simp only [vT,Pr.val,Pr.rem,Pr.err,nW,hl]; try rfl
  rw [hv] at hp
  rw [show (0:Int)=((0:Nat):Int) from rfl,hp,aC]
  simp only [aQ,hl,gA,eJ,OD,K2,aC,j3,bC]
  decide +kernel
theorem NT (s:bM) (h:s.M.length≤9223372036854775807):∃ b,tG s=some b∧(b=true→s.M.length≤40):=by
  unfold tG
  simp only [aQ,aM,bC,gM]
  refine t7 (fun x:Int × Int=>0≤x.2∧x.2≤(s.M.length:Int)) (fun x=>(s.M.length - x.2).toNat) (fun b=>b=true→s.M.length≤40) ?_ ⟨by simp,by simp⟩
  rintro ⟨a,j⟩ ⟨h0,h1⟩
  simp only at h0 h1 ⊢
  obtain ⟨i,rfl⟩:=Int.eq_ofNat_of_zero_le h0
  by_cases hi:i < s.M.length
  · right
    rw [if_pos (by omega),a7 (bQ hi),aR (x:=(i:Int) + 1) (by omega)]
    exact ⟨_,rfl,⟨by simp only; omega,by simp only; omega⟩,by simp only; omega⟩
  · left
    rw [if_neg (by omega)]
    refine ⟨_,rfl,fun hb=>?_⟩
    simp only [Bool.and_eq_true,decide_eq_true_eq] at hb
    omega
def BdR (r:aZ):Prop:=r.Name.length≤9223372036854775807∧r.E.S.Name.length≤9223372036854775807∧r.E.S.M.length≤9223372036854775807∧(∀ m ∈ r.E.S.M,m.Name.length≤9223372036854775807)∧r.Labels.length≤9223372036854775807∧∀ p ∈ r.Labels,p.1.length≤9223372036854775807
theorem Fw (r:aZ) (h:BdR r):∃ b,kV r=some b∧(b=true→Bs r):=by
  obtain ⟨h1,h2,h3,h4,h5,h6⟩:=h
  unfold kV
  obtain ⟨b,hb,hbm⟩:=NT r.E.S h3
  rw [hb,It _ h5]
  simp only [aQ,aC,aM,bC]
  split
  · cases b
    · exact ⟨_,rfl,fun h=>by cases h⟩
    · refine ⟨_,rfl,fun h=>⟨h1,⟨h2,h3,h4⟩,?_,h6⟩⟩
      have:=O8 h; omega
  · exact ⟨_,rfl,fun h=>by cases h⟩
def BdT (l:List aK):Prop:=l.length≤9223372036854775807∧∀ x ∈ l,x.S.length≤140737488351232
def BF:List aK→Nat
  | []=>0
  | x :: l=>x.S.length + BF l
theorem Qa (l:List aK):∀ x ∈ l,x.S.length≤BF l:=by
  induction l with
  | nil=>intro x hx; cases hx
  | cons y l ih=>
    intro x hx
    unfold BF
    rcases List.mem_cons.1 hx with rfl | hx
    · omega
    · have:=ih x hx; omega
theorem Dt (l:List aK) (h:BdT l):∃ b,kY l=some b∧(b=true→l.length≤1500∧∀ x ∈ l,x.S.length≤20000):=by
  unfold kY
  simp only [aQ,aM,bC,gM]
  by_cases hl:l.length≤1500
  · refine ⟨_,fH (a:=(0:Int)) l.length (fun i (n:Int)=>0≤n∧n≤140737488351232 * i) (fun i n=>decide (l.length≤1500) && decide (n + (BF (l.drop i):Int)≤20000)) ?_ ?_ (by omega),?_⟩
    · intro i n hi hn
      right
      have hx:=h.2 _ (iI hi)
      rw [if_pos (by simp only; omega),a7 (bQ hi),aR (x:=(i:Int) + 1) (by omega)]
      simp only
      rw [aR (by omega),show (i:Int) + 1=((i + 1:Nat):Int) by omega]
      refine ⟨_,rfl,by omega,?_⟩
      rw [eF hi]
      simp only [BF]
      rw [show n + ((nth l i).S.length:Int) + (BF (l.drop (i + 1)):Int)=n + (((nth l i).S.length + BF (l.drop (i + 1)):Nat):Int) by omega]
      rfl
    · intro n hn
      rw [if_neg (by simp only; omega)]
      simp [BF]
      have e:decide ((l.length:Int)≤1500)=decide (l.length≤1500):=by rw [decide_eq_decide]; omega
      rw [e]
    · intro hb
      simp only [Bool.and_eq_true,decide_eq_true_eq,List.drop_zero] at hb
      refine ⟨hl,fun x hx=>?_⟩
      have:=Qa l x hx; omega
  · obtain ⟨b,hb,hq⟩:=t7 (ph:=fun (x1:Int × Int)=>[(0,sl aF l),(3,vI x1.1),(4,vI x1.2)]) (ob:=fun _=>[]) (step:=fun (x1:Int × Int)=>if x1.2 < (l.length:Int) then bG l x1.2 fun x4=>aU (wI (x1.1 + (x4.S.length:Int)),wI (x1.2 + 1)) else aY (some (decide ((l.length:Int)≤1500) && decide (x1.1≤20000))))
      (fun x:Int × Int=>0≤x.2∧x.2≤(l.length:Int)) (fun x=>(l.length - x.2).toNat) (fun b=>b=false) (s:=((0:Int),(0:Int))) (by
        rintro ⟨a,j⟩ ⟨h0,h1⟩
        simp only at h0 h1 ⊢
        obtain ⟨i,rfl⟩:=Int.eq_ofNat_of_zero_le h0
        by_cases hi:i < l.length
        · right
          have:=h.1
          rw [if_pos (by omega),a7 (bQ hi),aR (x:=(i:Int) + 1) (by omega)]
          exact ⟨_,rfl,⟨by simp only; omega,by simp only; omega⟩,by simp only; omega⟩
        · left
          rw [if_neg (by omega)]
          refine ⟨_,rfl,?_⟩
          rw [decide_eq_false (by omega)]; rfl) ⟨by simp,by simp⟩
    exact ⟨b,hb,fun h=>by rw [hq] at h; cases h⟩
theorem Hh (l:List aK) (i:Int) (h:i < 0):dW l i=some (zR,0,3)∧jL l i=some (zR,0,3):=by
  constructor
  · unfold dW
    simp only [aQ,aM]
    rw [if_pos h]; rfl
  · unfold jL bZ b5
    simp only [aQ,aM,fK,← Bool.decide_or,bC,lD]
    rw [if_pos (.inl h)]
    simp only [aC,bE,aM]
    rw [if_neg (by decide),if_pos h]; rfl
theorem Iz:Bs zR:=⟨by simp,⟨by simp,by simp,fun m hm=>by cases hm⟩,by simp,fun p hp=>by cases hp⟩
theorem BL {r:aZ} (h:dB r=true):Bs r:=by
  obtain ⟨h1,h2,_,_,h5⟩:=oV h
  obtain ⟨k1,_,_⟩:=sS h2
  obtain ⟨s1,s2,s3⟩:=uM k1
  obtain ⟨l1,l2⟩:=Cy h5.1
  have n1:=gV h1
  have n2:=gV s1
  refine ⟨by omega,⟨by omega,by omega,fun m hm=>?_⟩,by omega,fun p hp=>?_⟩
  · have:=s3 m hm
    simp only [mOk,Bool.and_eq_true] at this
    have:=gV this.1; omega
  · have:=gV (l2 p hp).1; omega
theorem Ol (l:List aK) (i:Nat):Bs (vT l zR (mE (tks l i))).1:=by
  have h:=AL (tks l i)
  cases hr:mE (tks l i) with
  | er u e=>exact Iz
  | ok r u=>exact BL (h.ok r u hr).2.2
theorem law10_RuleIs_pl (r:aZ) (l:List aK) (i:Int) (name:Str) (hr:BdR r) (hl:BdT l) (hi:i≤9223372036854775807):law10_RuleIs r l i name=some true:=by
  unfold law10_RuleIs
  obtain ⟨b,hb,hbs⟩:=Fw r hr
  rw [vO,aC,hb,aC]
  simp only [aQ,bE,eW]
  cases b
  · rfl
  obtain ⟨c,hc,hcs⟩:=Dt l hl
  simp only [aV]
  rw [hc,aC,fK,FJ]
  by_cases h0:(!c || decide ((1000:Int) < (name.length:Int)))=true
  · rw [if_pos h0]; rfl
  rw [if_neg h0]
  have hct:c=true:=by
    cases c
    · exact absurd (by rfl) h0
    · rfl
  obtain ⟨hl1,hl2⟩:=hcs hct
  have hs:SmT l:=⟨by omega,fun x hx=>by have:=hl2 x hx; omega⟩
  have hsml:=hbs rfl
  obtain ⟨p,hp,hq,hps⟩:∃ p,dW l i=some p∧jL l i=some p∧Bs p.1:=by
    rcases Int.lt_or_le i 0 with h | h
    · exact ⟨_,(Hh l i h).1,(Hh l i h).2,Iz⟩
    · obtain ⟨k,rfl⟩:=Int.eq_ofNat_of_zero_le h
      exact ⟨_,mK l k hs,GM l k hs (by omega),Ol l k⟩
  rw [hp,aC,hq,aC]
  simp only [aV,gA,Bh r hsml,aC,beq_self_eq_true,j3,tX,eJ,Gr r hsml,mM _ _ hps,decide_true,cond_true,bC]
theorem z8 {r:aZ} (h:dB r=true):∃ l,lK (jH r)=some (l,((ruleS r).length:Int),0)∧l.map kv=uB r∧l.length≤6000∧∀ x ∈ l,x.S.length≤6000:=by
  have hlen:=NK h
  have hx:=LX.ruleS h LX.nil
  rw [List.append_nil,List.append_nil] at hx
  obtain ⟨l,h1,h2,h3,h4⟩:=hx.all (by omega)
  refine ⟨l,?_,h2,by omega,fun x hx=>by have:=h4 x hx; omega⟩
  unfold jH; rw [if_pos h]; exact h1
theorem xH {r:aZ} (h:dB r=true) {l:List aK} (hs:SmT l) (i:Nat) (hk:tks l i=uB r):dW l (i:Int)=some (r,(l.length:Int),0):=by
  rw [mK l i hs,hk]
  have:=Az h []
  rw [List.append_nil] at this
  rw [this]
  simp only [vT,Pr.val,Pr.rem,Pr.err,nW]
  simp
theorem Ar {r:aZ} (h:dB r=false):jH r=[]:=by unfold jH; rw [h]; rfl
theorem qB {r:aZ} (h:dB r=true):jH r=ruleS r:=by unfold jH; rw [if_pos h]
theorem all_nil:lK []=some ([],0,0):=EV [] (by simp) (Lx.nil 0) (by simp)
theorem law10_RuleBack_pl (r:aZ) (ahead:List aK) (hr:BdR r) (hl:BdT ahead):law10_RuleBack r ahead=some true:=by
  unfold law10_RuleBack
  obtain ⟨b,hb,hbs⟩:=Fw r hr
  rw [vO,aC,hb,aC]
  simp only [aQ,gI,bE,K4]
  cases b
  · rfl
  obtain ⟨c,hc,hcs⟩:=Dt ahead hl
  simp only [aV]
  rw [hc,aC]
  cases c
  · rfl
  obtain ⟨hl1,hl2⟩:=hcs rfl
  simp only [aV]
  rw [eJ,aC,gA]
  cases h:dB r
  · rw [Ar h,all_nil]; rfl
  obtain ⟨l,h1,h2,h3,h4⟩:=z8 h
  have hs:SmT l:=⟨by omega,fun x hx=>by have:=h4 x hx; omega⟩
  have hs2:SmT (ahead ++ l):=by
    refine ⟨by rw [List.length_append]; omega,fun x hx=>?_⟩
    rcases List.mem_append.1 hx with hx | hx
    · have:=hl2 x hx; omega
    · have:=h4 x hx; omega
  have hlen:l.length=(lI r).length + 1:=by
    have:=congrArg List.length h2
    rw [List.length_map] at this
    rw [this]; simp [uB]
  rw [h1,aC,aC,aV]
  simp only [List.nil_append,List.length_nil]
  rw [aN (by omega),aN (by omega)]
  have p1:=xH h hs 0 (by rw [A0,h2])
  have p2:=xH h hs2 ahead.length (by unfold tks; rw [List.drop_left,h2])
  rw [show ((0:Nat):Int)=0 from rfl] at p1
  rw [p1,aC,p2,aC,aR (by omega),show max (0:Int) ((l.length:Int) - 1)=(((lI r).length:Nat):Int) by omega,aN (by omega)]
  simp only [Int.toNat_natCast,Int.toNat_zero,List.drop_zero]
  have hs3:SmT (l.take (lI r).length):=⟨by rw [List.length_take]; omega,fun x hx=>hs.2 x (List.mem_of_mem_take hx)⟩
  have p3:dW (l.take (lI r).length) 0=some (zR,((lI r).length:Int),3):=by
    have:=mK (l.take (lI r).length) 0 hs3
    rw [show ((0:Nat):Int)=0 from rfl] at this
    rw [this,A0,List.map_take,h2]
    have e:(uB r).take (lI r).length=lI r:=by unfold uB; exact List.take_left
    rw [e,Kz h]
    simp only [vT,Pr.val,Pr.rem,Pr.err,nW,List.length_take,List.length_nil]
    rw [show min (lI r).length l.length=(lI r).length by omega]; simp
  rw [p3,aC]
  simp only [mM r r (BL h),aC,decide_true,cond_true,aV,bC]
  rw [show decide (((lI r).length:Int)=(l.length:Int) - 1)=true from by rw [decide_eq_true_eq]; omega]
theorem law10_RuleParsed_pl (l:List aK) (i:Int) (hl:BdT l) (hi:-9223372036854775808≤i∧i≤9223372036854775807):law10_RuleParsed l i=some true:=by
  unfold law10_RuleParsed
  obtain ⟨c,hc,hcs⟩:=Dt l hl
  rw [vO,aC,hc,aC]
  simp only [aQ,bE,fK]
  by_cases h0:(!c || decide (i < 0))=true
  · rw [h0]; rfl
  rw [Bool.not_eq_true] at h0
  rw [h0,bB]
  simp only [Bool.or_eq_false_iff,Bool.not_eq_false',decide_eq_false_iff_not] at h0
  obtain ⟨hl1,hl2⟩:=hcs h0.1
  have hs:SmT l:=⟨by omega,fun x hx=>by have:=hl2 x hx; omega⟩
  obtain ⟨k,rfl⟩:=Int.eq_ofNat_of_zero_le (show 0≤i by omega)
  rw [mK l k hs,aC]
  have hmin:tks l k=tks l (min k l.length):=by
    rcases Nat.lt_or_ge k l.length with h | h
    · rw [show min k l.length=k by omega]
    · rw [show min k l.length=l.length by omega,fJ h,fJ (Nat.le_refl _)]
  rcases (AL (tks l (min k l.length))).toks (by omega) with ⟨e,j,hr,h1,h2,h3,h4⟩ | ⟨r,j,hr,h1,h2,h3⟩
  · rw [hmin,hr,dS h2]
    simp only [aM,if_neg h3,aV]
    rw [mM _ _ Iz,aC]
    simp only [decide_true,cond_true]
    rw [show decide ((j:Int)≤(l.length:Int))=true from by rw [decide_eq_true_eq]; omega,aV]
    rw [if_pos (by omega)]
    have:decide (e=3)=decide ((j:Int)=(l.length:Int)):=by rw [decide_eq_decide,h4]; omega
    rw [this]
    simp
  · rw [hmin,hr,eV h2]
    simp only [aM,if_true,aV]
    obtain ⟨m,g1,g2,g3,g4⟩:=z8 h3
    have hs2:SmT m:=⟨by omega,fun x hx=>by have:=g4 x hx; omega⟩
    have p1:=xH h3 hs2 0 (by rw [A0,g2])
    rw [show ((0:Nat):Int)=0 from rfl] at p1
    rw [eJ,aC,g1,aC,p1,aC,gA,aC,aR (by omega)]
    simp only [h3,decide_true,cond_true]
    rw [show decide ((k:Int) + 6 < (j:Int))=true from by rw [decide_eq_true_eq]; omega,show decide ((j:Int)≤(l.length:Int))=true from by rw [decide_eq_true_eq]; omega]
    simp only [cond_true,aV,mM r r (BL h3),aC,decide_true,eJ,bC]
theorem M5 {a b:aZ} (ha:dB a=true) (hb:dB b=true) (h:ruleS a=ruleS b):a=b:=by
  obtain ⟨l,h1,h2,_⟩:=z8 ha
  obtain ⟨m,g1,g2,_⟩:=z8 hb
  rw [qB ha,h] at h1
  rw [qB hb,h1] at g1
  cases g1
  rw [h2] at g2
  have e1:=Az ha []
  have e2:=Az hb []
  rw [g2,e2] at e1
  cases e1; rfl
theorem JY (r:aZ):ruleS r ≠ []:=by unfold ruleS m5; simp
theorem zT {a b:aZ} (ha:dB a=true):decide (jH b=jH a)=decide (b=a):=by
  rw [decide_eq_decide]
  constructor
  · intro h
    cases hb:dB b
    · rw [Ar hb,qB ha] at h
      exact absurd h.symm (JY a)
    · rw [qB hb,qB ha] at h
      exact M5 hb ha h
  · rintro rfl; rfl
theorem law10_RuleApart_pl (a b:aZ) (d:Int) (ha:BdR a) (hb:BdR b):law10_RuleApart a b d=some true:=by
  unfold law10_RuleApart
  obtain ⟨x,hx,hxs⟩:=Fw a ha
  obtain ⟨y,hy,hys⟩:=Fw b hb
  rw [vO,aC,hx,aC]
  simp only [aQ,bE,eW]
  cases x
  · rfl
  simp only [aV]
  rw [hy,aC]
  cases y
  · rfl
  simp only [aV]
  rw [gA,aC]
  cases h1:dB a
  · rfl
  simp only [aV]
  rw [gA,aC]
  cases h2:dB b
  · rfl
  simp only [aV]
  rw [eJ,aC,eJ,aC,mM a b (hxs rfl),aC]
  rw [zT h2]
  simp only [beq_self_eq_true,aV]
  rw [eJ,aC,zT h1]
  have e1:decide ((⟨a.Name,a.E,d,a.Keep,a.Labels⟩:aZ)=a)=decide (a.For=d):=by
    rw [decide_eq_decide]
    obtain ⟨n,e,f,k,l⟩:=a
    simp only [aZ.mk.injEq,true_and,and_true]
    exact eq_comm
  have e2:decide ((⟨a.Name,a.E,a.For,d,a.Labels⟩:aZ)=a)=decide (a.Keep=d):=by
    rw [decide_eq_decide]
    obtain ⟨n,e,f,k,l⟩:=a
    simp only [aZ.mk.injEq,true_and,and_true]
    exact eq_comm
  rw [e1]
  simp only [beq_self_eq_true,aV]
  rw [eJ,aC,zT h1,e2]
  simp
theorem P8 {a b:Int} (h0:0≤b) (h:b≤9223372036854775807):0≤FN .i64 a b∧FN .i64 a b≤b:=by
  unfold FN
  have e:(BitVec.ofInt 64 b).toNat=b.toNat:=by rw [BitVec.toNat_ofInt]; omega
  have h1:(BitVec.ofInt 64 a &&& BitVec.ofInt 64 b).toNat≤b.toNat:=by rw [BitVec.toNat_and,e]; exact Nat.and_le_right
  have h2:IntKind.i64.wrap ((BitVec.ofInt 64 a &&& BitVec.ofInt 64 b).toNat:Int)=((BitVec.ofInt 64 a &&& BitVec.ofInt 64 b).toNat:Int):=aR (by omega)
  show 0≤IntKind.i64.wrap ((BitVec.ofInt 64 a &&& BitVec.ofInt 64 b).toNat:Int)∧IntKind.i64.wrap ((BitVec.ofInt 64 a &&& BitVec.ofInt 64 b).toNat:Int)≤b
  rw [h2]; omega
theorem law10_RuleNames_pl (r:aZ) (k:Int) (v:Str) (hr:BdR r):law10_RuleNames r k v=some true:=by
  unfold law10_RuleNames
  obtain ⟨x,hx,hxs⟩:=Fw r hr
  rw [vO,aC,hx,aC]
  simp only [aQ,gI,bE,fK,y6]
  rw [FJ]
  split
  · rfl
  rw [gA,aC]
  cases h1:dB r
  · rfl
  simp only [aV,aM]
  by_cases h16:(16:Int)≤(r.Labels.length:Int)
  · rw [if_pos h16]; rfl
  rw [if_neg h16]
  obtain ⟨ka,kb⟩:=P8 (a:=k) (b:=65535) (by omega) (by omega)
  generalize FN .i64 k 65535=z at ka kb
  obtain ⟨name,hn,hres⟩:∃ name:Str,([[95,95,110,97,109,101,95,95],[97,108,101,114,116,110,97,109,101],[97,108,101,114,116,115,116,97,116,101]]:List Str)[(Int.tmod z 3).toNat]?=some name∧mI name=true:=by
    rw [Int.tmod_eq_emod_of_nonneg ka]
    have:z % 3=0 ∨ z % 3=1 ∨ z % 3=2:=by omega
    rcases this with h | h | h <;> rw [h]
    · exact ⟨_,rfl,by decide⟩
    · exact ⟨_,rfl,by decide⟩
    · exact ⟨_,rfl,by decide⟩
  rw [cU (by rw [Int.tmod_eq_emod_of_nonneg ka]; omega) hn]
  have hp:=oV h1
  have hb:dB ⟨r.Name,r.E,r.For,r.Keep,[]⟩=true:=by
    unfold dB
    simp only
    rw [hp.1,hp.2.1,hp.2.2.1,hp.2.2.2.1]; rfl
  have fin:∀ l:List aJ,l.any (fun p=>mI p.1)=true→dB ⟨r.Name,r.E,r.For,r.Keep,l⟩=false:=by
    intro l hl
    unfold dB
    simp only
    rw [hl]; simp
  refine LU (fun x:List aJ × Bool × Int=>(x.2.1=true→x.1.any (fun p=>mI p.1)=true)∧(0≤x.2.2∧x.2.2≤r.Labels.length)∧x.1.length≤2 * x.2.2) (fun x=>(r.Labels.length - x.2.2).toNat) ?_ ⟨by simp,⟨by simp,by simp⟩,by simp⟩
  rintro ⟨acc,laid,i⟩ ⟨hA,hi,hac⟩
  simp only at hA hi hac ⊢
  obtain ⟨i,rfl⟩:=Int.eq_ofNat_of_zero_le hi.1
  by_cases hlt:i < r.Labels.length
  · right
    rw [if_pos (by omega)]
    simp only [a7 (bQ hlt)]
    rw [aR (by omega)]
    cases laid
    · rw [bB]
      cases hlt2:ltS name (nth r.Labels i).Name
      · rw [bB,aN (by simp; omega)]
        refine ⟨_,rfl,⟨fun h=>(by cases h),⟨?_,?_⟩,?_⟩,?_⟩
        · simp only; omega
        · simp only; omega
        · simp; omega
        · simp only; omega
      · rw [aV,aN (by simp; omega),aN (by simp; omega)]
        refine ⟨_,rfl,⟨fun _=>?_,⟨?_,?_⟩,?_⟩,?_⟩
        · simp [hres]
        · simp only; omega
        · simp only; omega
        · simp; omega
        · simp only; omega
    · rw [aV,aN (by simp; omega)]
      refine ⟨_,rfl,⟨fun _=>?_,⟨?_,?_⟩,?_⟩,?_⟩
      · have:=hA rfl
        rw [List.any_append,this]; rfl
      · simp only; omega
      · simp only; omega
      · simp; omega
      · simp only; omega
  · left
    rw [if_neg (by omega)]
    have done:∀ l:List aJ,l.any (fun p=>mI p.1)=true→dB ⟨r.Name,r.E,r.For,r.Keep,l⟩=false∧jH ⟨r.Name,r.E,r.For,r.Keep,l⟩=[]:=fun l hl=>⟨fin l hl,Ar (fin l hl)⟩
    have hne:decide (jH ⟨r.Name,r.E,r.For,r.Keep,[]⟩=[])=false:=by
      rw [decide_eq_false_iff_not,qB hb]; exact JY _
    cases laid
    · rw [bB,aN (by simp; omega)]
      obtain ⟨d1,d2⟩:=done (acc ++ [⟨name,v⟩]) (by simp [hres])
      simp only [gA,eJ,aC,aV,d1,d2,decide_true,j3,hres,hb,hne,Bool.not_false,bC,gZ,bB,if_true]
    · rw [aV]
      obtain ⟨d1,d2⟩:=done acc (hA rfl)
      simp only [gA,eJ,aC,aV,d1,d2,decide_true,j3,hres,hb,hne,Bool.not_false,bC,gZ,bB,if_true]
end Go.Proofs.YtgkmbhllcekagaaGreatDoor.AM
