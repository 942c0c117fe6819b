/- X2 -/
import Derived.Test.YthgenmkengbmmaaGreatDoorX1
import Derived.Recover
import Derived.Lib.Overlaps
import Derived.Lib.AppendZerosOnto
import Derived.Lib.ItoaNum
set_option linter.all false
namespace Go.Proofs.YthgenmkengbmmaaGreatDoor.AM
open Go
abbrev Flt:=Int × Int
def nX (T:Nat) (z:Flt):AV:=.v (.iface T (.agg #[.int .i64 z.1,.int .i64 z.2]))
def cO {α:Type} (z:Flt):Option (Except Flt α):=some (.error z)
def okM {α:Type} (x:α):Option (Except Flt α):=some (.ok x)
def kB {β:Type} (m:Option β):Option β:=m
def eP {α β:Type} (_ks:List Nat) (_w:List Obj) (_enc:α→AV) (_ob:α→List Obj) (e:Option (Except Flt α)) (me:Flt→Option β) (m:α→Option β):Option β :=
 e.bind fun x=>match x with | .ok r=>m r | .error z=>me z
def Dg {β:Type} (_W:List Nat) (_t:Tr) (m:Option β):Option β:=m
def Fl {α:Type} (X:α→AV) (O:α→List Obj) (T n0:Nat) (r:Except Flt α):fK→List Obj→Prop:=fun ae o=>
 match r with
 | .ok y=>ae=.ret (X y)∧o=O y
 | .error z=>ae=.pan (nX T z)∧n0≤o.length
def iX {α:Type} (P:Program) (f:Nat) (args:List AV) (oin:List Obj) (X:α→AV) (O:α→List Obj) (T:Nat) (r:Except Flt α):Prop:=cV P f args oin (Fl X O T oin.length r)
theorem iX.of_model {P:Program}{α:Type}{f:Nat}{fn:Func}{c:Code}{args:List AV}{oin:List Obj}{m:Option (Except Flt α)}{X:α→AV}{O:α→List Obj}{T:Nat}{r:Except Flt α} (hf:P.funcs[f]?=some fn) (hb:fn.body=some c) (hl:args.length≤fn.ntmps) (hm:m=some r) {n0:Nat} (hn0:oin.length=n0)
  (h:H m (fun y=>y=r) (awp P n0 c (st fn.ntmps (bD 0 args) oin) (e9 P n0 fn.results.toList (Fl X O T n0 r)) (fun x s=>Fl X O T n0 r (.pan x) s.objs))):iX P f args oin X O T r:=by
 subst hn0
 have h2:=h r hm rfl
 refine cV.mono (R:=Fl X O T oin.length r) (cV.of_awp hf hb ?_) (fun _ _ h=>h)
 rw [AQ args fn.ntmps hl]
 exact h2
section
variable {P:Program}{α β:Type}{n0 n:Nat}{s:AS}{rs:List ResultVar}{X:α→AV}{O:α→List Obj}{T:Nat}{r:Except Flt α}{v:α}
theorem V5 {z:Flt}{objs:List Obj} (hn:n0≤objs.length):H (cO z) (fun y=>y=r) (Fl X O T n0 r (.pan (nX T z)) objs):=by
 intro y hy hr
 cases hy
 subst hr
 exact ⟨rfl,hn⟩
theorem Xh {ax:AX} (h:∀ r',H (aH v) (fun y=>y=r') (e9 P n0 rs (lQ X O r') ax s)):H (okM v) (fun y=>y=r) (e9 P n0 rs (Fl X O T n0 r) ax s):=by
 intro y hy hr
 cases hy
 subst hr
 exact h v v rfl rfl
end
section
variable {P:Program}{β α:Type}{m:α→Option β}{me:Flt→Option β}{mm:Option β}{Φ:β→Prop}{ops rest:List Oper}{K:AS→Prop}{E:AV→AS→Prop}{n d g:Nat}{o:List (Nat × AV)}{objs objs1 objs2 oin:List Obj}{ty:TypeId}{pos:String}{af:Array Edge}
 {cal:Operand}{args:Array Operand}{at':Array TypeId}{first cap argsC:List AV}{e:Option (Except Flt α)}{X:α→AV}{O:α→List Obj}{T:Nat}{enc:α→AV}{ob:α→List Obj}{ks:List Nat}{x:Operand}
theorem Q3 {f:Nat→Nat}{ks:List Nat}{n:Nat}{oin:List Obj}{ob:α→List Obj}{r:Except Flt α} (hlen:ks.length=oin.length) (h:∀ r,tR f (O r) (nD ks n (ob r))):∀ (ae:fK) (o:List Obj),Fl X O T oin.length r ae o→oin.length≤o.length:=by
 intro ae o hr
 cases r with
 | ok y=>exact Ij hlen (h y) ae o hr
 | error z=>exact hr.2
theorem RA {o1:List (Nat × AV)}{p:Oper}{N:AS→Prop} (hp':p.op=.call ⟨.value cal,args,at'⟩) (hc:evo n o1 cal=.fn g first cap) (hen:aW P g=true) (hf:∀ r,e=some r→iX P g argsC oin X O T r)
  (hp:AV.pubL objs (first ++ args.toList.map (evo n o1) ++ cap)=objs1) (hw:leOb objs1 objs2) (hl:objs2.length=objs1.length)
  (hle:AV.leL (AV.stripL (first ++ args.toList.map (evo n o1) ++ cap)) (AV.renL (rn ks objs2.length) argsC)) (hn:r6 ks=true) (hk:wQ objs2.length ks=true)
  (hin:CI (rn ks objs2.length) objs2 ks oin) (ha:AV.idsLtL oin.length argsC=true) (hb:cE oin.length oin=true)
  (hx:∀ r,(X r).ren (rn ks objs2.length)=enc r) (hO:∀ r,tR (rn ks objs2.length) (O r) (nD ks objs2.length (ob r))) (ho:∀ r,eL ks objs2 (nD ks objs2.length (ob r))=ob r)
  {r:Except Flt α} (hr:e=some r) (h1:∀ y,r=.ok y→N { (st n o1 objs).put p.dst (enc y) with objs:=ob y }) (h2:∀ z o0,r=.error z→oin.length≤o0.length→E (nX T z) ⟨(st n o1 objs).tmps,eL ks objs2 o0⟩):aop P p (st n o1 objs) N E:=by
 unfold aop; rw [hp']; dsimp only
 have ee:(st n o1 objs).eval=evo n o1:=funext fun x=>aU n o1 objs x
 rw [ee,hc]; dsimp only
 refine ⟨hen,?_⟩
 refine cV.strip ?_
 show cV P g _ (AV.pubL objs _) _
 rw [hp]
 refine cV.leOb hl hw (cV.le hle ?_)
 obtain ⟨hlen,hget⟩:=EN hin
 refine (cV.frameR (hf r hr) (Q3 hlen hO) ks objs2 (CV hn) (EP hk) hlen hget ha hb).mono ?_
 rintro ae oo ⟨ae0,o0,hR,rfl,rfl⟩
 cases r with
 | ok y=>
  obtain ⟨rfl,rfl⟩:=hR
  show N _
  rw [BA (hO y),ho y,hx y]; exact h1 y rfl
 | error z=>
  obtain ⟨rfl,hl0⟩:=hR
  show E (nX T z) _
  exact h2 z _ rfl (by simpa using hl0)
theorem SC (hc:evo n o cal=.fn g first cap) (hen:aW P g=true) (hf:∀ r,e=some r→iX P g argsC oin X O T r)
  (hp:AV.pubL objs (first ++ args.toList.map (evo n o) ++ cap)=objs1) (hw:leOb objs1 objs2) (hl:objs2.length=objs1.length)
  (hle:AV.leL (AV.stripL (first ++ args.toList.map (evo n o) ++ cap)) (AV.renL (rn ks objs2.length) argsC)) (hn:r6 ks=true) (hk:wQ objs2.length ks=true)
  (hin:CI (rn ks objs2.length) objs2 ks oin) (ha:AV.idsLtL oin.length argsC=true) (hb:cE oin.length oin=true)
  (hx:∀ r,(X r).ren (rn ks objs2.length)=enc r) (hO:∀ r,tR (rn ks objs2.length) (O r) (nD ks objs2.length (ob r))) (ho:∀ r,eL ks objs2 (nD ks objs2.length (ob r))=ob r)
  (he:∀ z o0,oin.length≤o0.length→H (me z) Φ (E (nX T z) (st n o (eL ks objs2 o0))))
  (h:∀ r,H (m r) Φ (rg .p P ops rest (st n (oc d (enc r) o) (ob r)) K E)):H (eP ks objs2 enc ob e me m) Φ (rg .p P ops (⟨some d,.call ⟨.value cal,args,at'⟩,ty,pos,af,none⟩ :: rest) (st n o objs) K E):=by
 intro y hy hq
 unfold eP at hy
 cases hee:e with
 | none=>rw [hee] at hy; cases hy
 | some r=>
  rw [hee] at hy
  unfold rg; dsimp only; unfold cY dJ; dsimp only
  refine RA (ks:=ks) (at':=at') (O:=O) (p:=⟨some d,.call ⟨.value cal,args,at'⟩,ty,pos,af,none⟩) rfl hc hen hf hp hw hl hle hn hk hin ha hb hx hO ho hee ?_ ?_
  ·rintro y' rfl
   have:=h y' y hy hq
   exact this
  ·rintro z o0 rfl hlen
   exact he z o0 hlen y hy hq
theorem Fy {α:Type} (ks:List Nat) (l l':List α):l.length≤(eL ks l l').length:=by simp [eL,eZ]
theorem Vo {z:Flt}{d:Option Nat} (hx:evo n o x=nX T z) (h:H mm Φ (E (nX T z) (st n o objs))):H (kB mm) Φ (rg .p P ops (⟨d,.panic x,ty,pos,af,none⟩ :: rest) (st n o objs) K E):=by
 intro y hy hq
 unfold rg; dsimp only; unfold cY dJ; dsimp only; unfold aop; dsimp only
 rw [aU,hx]
 exact h y hy hq
theorem VN {t:TypeId}{i:TI}{a b:Int} (ht:ti P t=some i) (hd:Ji i.desc=false) (hx:evo n o x=.agg [vI a,vI b]):Val P (.makeInterface t x) n o objs (nX t (a,b)):=by
 refine ⟨?_⟩; intro p N E hp hN; unfold aop; rw [hp]; dsimp only; rw [aU,hx,ht]
 exact ⟨hd,hN⟩
end
def NW (o:List (Nat × AV)):List Nat→List (Nat × AV)
 | []=>o
 | i :: is=>NW (oc i .any o) is
theorem MW (n:Nat) (objs:List Obj):∀ (W:List Nat) (o:List (Nat × AV)),(st n o objs).kill W=st n (NW o W) objs
 | [],_=>rfl
 | i :: W,o=>MW n objs W (oc i .any o)
section
variable {P:Program}{β:Type}{m:Option β}{Φ:β→Prop}{n0 n d:Nat}{Q:AX→AS→Prop}{K:AS→Prop}{E:AV→AS→Prop}{s:AS}{ops:Array Oper}{W:List Nat}{t r:Tr}{i:Nat}{o:List (Nat × AV)}{objs:List Obj}{ty:TypeId}{pos:String}{af:Array Edge}{x:Operand}
theorem QX {id:Nat}{l:List Oper} (e1:P.follows .mixedOrders=true) (e2:Region.noSelect l.toArray=true) (e3:trB l.toArray W l.toArray.size t (Array.replicate l.toArray.size false)=true) (h:H m Φ (gS P l.toArray W (Q .normal) E t s)) :
  H (Dg W t m) Φ (awp P n0 (.region id l.toArray true) s Q E):=fun y h1 h2=>IP e1 e2 e3 (h y h1 h2)
theorem VI (h:H m Φ (K s)):H m Φ (gS P ops W K E .lf s):=fun y h1 h2=>by simpa [gS] using h y h1 h2
theorem G9 {l l':List Oper}{p:Oper} (h:l.drop i=p :: l'):l.toArray[i]?=some p:=by
 have:(l.drop i)[0]?=some p:=by rw [h]; rfl
 simpa using this
variable {l l':List Oper}
theorem N9 {p:Oper}{y:AV} (ho:l.drop i=p :: l') (hg:p.guard=none) (hp:FF P p s y) (h:H m Φ (gS P l.toArray W K E t (s.put p.dst y))):H m Φ (gS P l.toArray W K E (.pf i t) s):=fun z h1 h2=>by
 simp only [gS]; exact ⟨p,y,G9 ho,hg,hp,h z h1 h2⟩
theorem pQ {v:AV} (ho:l.drop i=⟨some d,.move x,ty,pos,af,none⟩ :: l') (hv:evo n o x=v) (h:H m Φ (gS P l.toArray W K E t (st n (oc d v o) objs))):H m Φ (gS P l.toArray W K E (.pf i t) (st n o objs)) :=
 N9 ho rfl (show v=_ by rw [aU,hv]) h
theorem U9 {k off:Nat} (ho:l.drop i=⟨some d,.nilCheck x,ty,pos,af,none⟩ :: l') (hv:evo n o x=.ptr k off) (h:H m Φ (gS P l.toArray W K E t (st n (oc d (.ptr k off) o) objs))):H m Φ (gS P l.toArray W K E (.pf i t) (st n o objs)) :=
 N9 ho rfl (show ∃ o' off',_ from ⟨k,off,by rw [aU,hv],rfl⟩) h
theorem Uc {k off off' f:Nat}{tt:TypeId} (ho:l.drop i=⟨some d,.fieldAddr tt x f,ty,pos,af,none⟩ :: l') (hv:evo n o x=.ptr k off) (hf:iB P tt f (.ptr k off) (fun r=>r=.ptr k off')) (h:H m Φ (gS P l.toArray W K E t (st n (oc d (.ptr k off') o) objs))):H m Φ (gS P l.toArray W K E (.pf i t) (st n o objs)) :=
 N9 ho rfl (show ∃ o' off1 off2,_ from ⟨k,off,off',by rw [aU,hv],rfl,hf⟩) h
theorem UY {tt:TypeId}{f k off off':Nat}{ti1 tj:TI}{fd:Field} (h1:ti P tt=some ti1) (h2:k9 ti1 f=some fd) (h3:ti P fd.type=some tj) (h4:tj.size ≠ 0) (h5:off + fd.offset=off'):iB P tt f (.ptr k off) (fun r=>r=.ptr k off'):=by
 unfold iB; rw [h1]; dsimp only; rw [h2]; dsimp only; rw [h3]; dsimp only; exact ⟨h4,by rw [h5]⟩
theorem Vm {p:Oper} (ho:l.drop i=p :: l') (hg:p.guard=none) (h:H m Φ (rg .p P l [p] s (gS P l.toArray W K E t) (fun x s'=>E x (s'.kill W)))) (h2:H m Φ (uA P l.toArray W K E r s)):H m Φ (gS P l.toArray W K E (.nd i t r) s):=by
 intro y k1 k2
 simp only [gS]
 refine ⟨⟨p,G9 ho,hg,?_⟩,h2 y k1 k2⟩
 have h3:dJ P l s p _ _ _:=h y k1 k2
 unfold dJ at h3
 rw [hg] at h3
 exact h3
theorem VZ {p:Oper} (ho:l.drop i=p :: l') (hg:p.guard=none) (h:H m Φ (rg .p P l [p] s (gS P l.toArray W K E t) (fun x s'=>E x (s'.kill W)))) (h2:H m Φ (uA P l.toArray W K E r s)):H m Φ (uA P l.toArray W K E (.nd i t r) s):=by
 intro y k1 k2
 simp only [uA]
 refine ⟨⟨p,G9 ho,hg,?_⟩,h2 y k1 k2⟩
 have h3:dJ P l s p _ _ _:=h y k1 k2
 unfold dJ at h3
 rw [hg] at h3
 exact h3
theorem UQ:H m Φ (uA P ops W K E .lf s):=fun _ _ _=>by simp [uA]
end
def zV (P:Program) (g:Nat) (cap:List AV) (objs:List Obj):Prop :=
 ∀ (G:aK) (w:World) (vs:List Value),Mem G objs w→cH G w cap vs →
  CallsD P g vs.toArray .returning w fun e u' w'=>(∃ v,e=.returned v)∧u'=.returning∧∃ G',Mem G' objs w'∧bG G w G' w'
def z7 (P:Program) (g:Nat) (cap:List AV) (x:AV) (objs objs':List Obj):Prop :=
 ∀ (G:aK) (w:World) (vs:List Value) (v:Value),Mem G objs w→cH G w cap vs→aO G w x v →
  CallsD P g vs.toArray (.panicking [{ v,recovered:=false }]) w fun e u' w'=>(∃ v',e=.returned v')∧u'=.panicking [{ v,recovered:=true }]∧∃ G',Mem G' objs' w'∧bG G w G' w'
def Jz (P:Program) (n0:Nat) (rs:List ResultVar) (R:fK→List Obj→Prop) (g:Nat) (cap:List AV):AX→AS→Prop
 | .exit _,_=>False
 | _,s=>zV P g cap s.objs∧e9 P n0 rs R .ret s
def HE (P:Program) (n0 n1:Nat) (rs:List ResultVar) (R:fK→List Obj→Prop) (g:Nat) (cap:List AV) (x:AV) (s:AS):Prop :=
 ∃ xv s' objs',x=.v xv∧cC n1 s s'∧z7 P g cap x s'.objs objs'∧e9 P n0 rs R .ret ⟨s'.tmps,objs'⟩
def Xk (P:Program) (n0:Nat) (rs:List ResultVar) (R:fK→List Obj→Prop) (l:List Oper) (b:Code) (s:AS):Prop :=
 ∃ (l':List Oper) (p:Oper) (f:Operand) (ats:Array TypeId),l=l' ++ [p]∧p.op=.defer ⟨.value f,#[],ats⟩∧p.guard=none ∧
  cY P l l' s (fun s1=>∃ g cap,s1.eval f=.fn g [] cap∧aW P g=true∧awp P s1.objs.length b (s1.put p.dst .any) (Jz P n0 rs R g cap) (HE P n0 s1.objs.length rs R g cap)) (fun _ _=>False)
def ER (P:Program) (n0:Nat) (rs:List ResultVar) (R:fK→List Obj→Prop):Code→AS→Prop
 | .seq a b,s=>awp P n0 a s (nM n0 (fun s'=>ER P n0 rs R b s') (e9 P n0 rs R)) (fun x s'=>R (.pan x) s'.objs) ∨ (∃ id l,a=.region id l.toArray false∧Xk P n0 rs R l b s)
 | _,_=>False
@[reducible] def df0:Df:=⟨[]⟩
theorem Ru {G G':aK}{w w':World}{objs:List Obj}{x:AV}{v:Value} (h1:bG G w G' w') (h2:Mem G' objs w') (hc:aO G' w' x v):@dB df0 G w G' ⟨[x],objs⟩ { tmps:=#[v],defers:=[] } w':=by
 letI:Df:=df0
 exact ⟨h1,h2,⟨rfl,fun i y u hy hu=>by
  cases i with
  | zero=>simp at hy hu; subst hy; subst hu; exact hc
  | succ i=>simp at hy⟩,rfl⟩
theorem R8 {n0:Nat}{G G':aK}{w w':World}{objs objs':List Obj}{x x':AV}{v:Value} (hn:G.bl.length=n0) (h1:bG G w G' w') (h2:Mem G' objs w') (hc:aO G' w' x v) (k:cC n0 ⟨[x],objs⟩ ⟨[x'],objs'⟩):∃ G'',Mem G'' objs' w'∧bG G w G'' w'∧aO G'' w' x' v:=by
 letI:Df:=df0
 obtain ⟨G'',hf⟩:=k df0 G w G' _ w' hn (Ru h1 h2 hc)
 exact ⟨G'',hf.sat.mem,hf.step,hf.sat.tmps.2 0 x' v rfl rfl⟩
theorem uL {P:Program}{n0:Nat}{fn:Func}{R:fK→List Obj→Prop} [Df] {G G':aK}{w w':World}{s:AS}{a:Act} (hn:G.bl.length=n0) (h:e9 P n0 fn.results.toList R .ret s) (hf:dB G w G' s a w') :
  ∃ v,(results fn a.tmps).run P w'=.ok v w'∧∃ ae objs' G',R ae objs'∧Mem G' objs' w'∧bG G w G' w'∧tZ G' w' ae (.returned v):=by
 obtain ⟨x,k2,x',objs',k1,k3⟩:=h
 obtain ⟨v,hv,hcv⟩:=EK (P:=P) hf.sat k2
 obtain ⟨G'',m1,s1,c1⟩:=R8 hn hf.step hf.sat.mem hcv k1
 exact ⟨v,hv,.ret x',objs',G'',k3,m1,s1,c1⟩
theorem RI {G:aK}{w:World}{s:AS}{a:Act}{p:Oper} (dd:Deferred) (hd:a.defers=[]) (hm:Mem G s.objs w) (ht:cH G w s.tmps a.tmps.toList) :
  @dB ⟨[dd]⟩ G w G (s.put p.dst .any) (({ a with defers:=dd :: a.defers }:Act).put p.dst undef) w:=by
 letI:Df:=⟨[dd]⟩
 have h0:Sat G s { a with defers:=dd :: a.defers } w:=⟨hm,ht,by show dd :: a.defers=[dd]; rw [hd]⟩
 exact ⟨bG.refl G w,h0.put0 p.dst (aO.any undef)⟩
theorem N1 {P:Program}{n0:Nat}{fn:Func}{R:fK→List Obj→Prop}{G0:aK}{w0:World} (hn:G0.bl.length=n0) :
  ∀ (c:Code) (s:AS) (G:aK) (a:Act) (w:World),ER P n0 fn.results.toList R c s→@dB df0 G0 w0 G s a w →
   c.wp P (bodyPostD P fn fun e w'=>∃ ae objs' G',R ae objs'∧Mem G' objs' w'∧bG G0 w0 G' w'∧tZ G' w' ae e) a w:=by
 intro c
 induction c with
 | seq x y _ ih=>
  intro s G a w h hf
  rcases h with h | ⟨id,l,rfl,l',p,f,ats,hl,hop,hg,h⟩
  ·letI:Df:=df0
   refine wp_seq (wp_mono (iV hn (fun ops t i hi=>pU _ ops t i hi) x s _ G a w h hf) ?_)
   rintro e a' w' (⟨ax,s',G',h1,h2,h3⟩ | ⟨x',s',G',v,h1,h2,h3,rfl⟩)
   ·cases ax with
    | normal=>
     cases e <;> first | exact h2.elim | skip
     obtain ⟨s1,G1,hf1,h1⟩:=h1 _ G0 w0 G' a' w' hn h3
     exact ih s1 G1 a' w' h1 hf1
    | exit i=>
     exact h1.elim
    | ret=>
     cases e <;> first | exact h2.elim | skip
     obtain ⟨v,k1,k2⟩:=uL hn h1 h3
     show Leaves P fn a'.tmps _ a'.defers .returning w'
     rw [show a'.defers=[] from h3.sat.defers]
     exact ⟨v,k1,k2⟩
   ·show Leaves P fn a'.tmps _ a'.defers (.panicking _) w'
    rw [show a'.defers=[] from h2.sat.defers]
    exact ⟨.pan x',s'.objs,G',h1,h2.sat.mem,h2.step,v,rfl,h3⟩
  ·letI:Df:=df0
   refine wp_seq (wp_region_list ?_)
   have hsnd:=jX (P:=P) (ops:=l) (G0:=G0) (w0:=w0)
    (K:=fun s1=>∃ g cap,s1.eval f=.fn g [] cap∧aW P g=true∧awp P s1.objs.length y (s1.put p.dst .any) (Jz P n0 fn.results.toList R g cap) (HE P n0 s1.objs.length fn.results.toList R g cap)) (E:=fun _ _=>False) (tl:=[p])
    (Q:=Exit.then (y.wp P (bodyPostD P fn fun e w'=>∃ ae objs' G',R ae objs'∧Mem G' objs' w'∧bG G0 w0 G' w'∧tZ G' w' ae e)) (bodyPostD P fn fun e w'=>∃ ae objs' G',R ae objs'∧Mem G' objs' w'∧bG G0 w0 G' w'∧tZ G' w' ae e)) ?_ (fun _ _ _ _ _ _ h=>h.elim) l' s G a w h hf
   ·simpa [← hl] using hsnd
   rintro s1 G1 a1 w1 ⟨g,cap,he,hen,hb⟩ hf1
   refine wpList_step fun K' hK'=>?_
   rw [if_pos (by simp [Region.wanted,hg])]
   have hfc:=hf1.sat.eval f
   rw [he] at hfc
   obtain ⟨vf,vc,hfv,hv1,hv2⟩:=HF hfc
   have hvf:vf=[]:=List.eq_nil_of_length_eq_zero hv1.1
   subst hvf
   unfold Oper.wp
   have hrun:(execOp a1.eval p).run P w1=.ok (.defer { target:=.fn (.func g) vc.toArray,args:=#[] }) w1:=by
    simp [execOp,hop,resolve,hfv,Deferred.ofValue]
   rw [hrun]
   simp only [Oper.upon]
   refine hK' _ _ ?_
   show y.wp P _ _ _
   have hd0:a1.defers=[]:=hf1.sat.defers
   let dd:Deferred:={ target:=.fn (.func g) vc.toArray,args:=#[] }
   have hn1:G1.bl.length=s1.objs.length:=hf1.sat.mem.len
   have hfp:=RI (p:=p) dd hd0 hf1.sat.mem hf1.sat.tmps
   have hst01:bG G0 w0 G1 w1:=hf1.step
   have hc1:cH G1 w1 cap vc:=hv2
   have hinv:∀ w,(invoke dd.target dd.args).run P w=.ok (.enter g vc.toArray) w:=by
    intro w
    show (callFunc g (#[] ++ vc.toArray)).run P w=_
    rw [Lz hen]
    simp
   clear hf1
   letI:Df:=⟨[dd]⟩
   refine wp_mono (iV hn1 (fun ops t i hi=>pU _ ops t i hi) y _ _ G1 _ w1 hb hfp) ?_
   rintro e a' w' (⟨ax,s',G',h1,h2,h3⟩ | ⟨x',s',G',v,h1,h2,h3,rfl⟩)
   ·have key:(zV P g cap s'.objs∧e9 P n0 fn.results.toList R .ret s')→Leaves P fn a'.tmps (fun e w'=>∃ ae objs' G',R ae objs'∧Mem G' objs' w'∧bG G0 w0 G' w'∧tZ G' w' ae e) a'.defers .returning w':=by
     rintro ⟨c0,hq⟩
     rw [show a'.defers=[dd] from h3.sat.defers]
     refine leaves_cons (by simp) (hinv w') ((c0 G' w' vc h3.sat.mem (hc1.mono h3.step.ext)).mono ?_)
     rintro e u' w'' ⟨⟨v,rfl⟩,rfl,G'',m1,st1⟩
     have hf3:dB G0 w0 G'' s' a' w'':=⟨hst01.trans (h3.step.trans st1),m1,h3.sat.tmps.mono st1.ext,h3.sat.defers⟩
     obtain ⟨v',k1,k2⟩:=uL hn hq hf3
     exact ⟨v',k1,k2⟩
    cases ax with
    | normal=>
     cases e <;> first | exact h2.elim | skip
     exact key h1
    | exit i=>exact h1.elim
    | ret=>
     cases e <;> first | exact h2.elim | skip
     exact key h1
   ·obtain ⟨xv,s2,objs',rfl,hw,c0,hq⟩:=h1
    obtain ⟨G2,hf2⟩:=hw _ G1 w1 G' a' w' hn1 h2
    have hv:=fH h3
    have h3':aO G2 w' (.v xv) v:=by
     cases h3 with
     | v _ ho=>exact .v _ ho
    show Leaves P fn a'.tmps _ a'.defers (.panicking _) w'
    rw [show a'.defers=[dd] from hf2.sat.defers]
    refine leaves_cons (by simp) (hinv w') ((c0 G2 w' vc v hf2.sat.mem (hc1.mono hf2.step.ext) h3').mono ?_)
    rintro e u' w'' ⟨⟨v,rfl⟩,rfl,G'',m1,st1⟩
    have hf3:dB G0 w0 G'' ⟨s2.tmps,objs'⟩ a' w'':=⟨hst01.trans (hf2.step.trans st1),m1,hf2.sat.tmps.mono st1.ext,hf2.sat.defers⟩
    obtain ⟨v',k1,k2⟩:=uL hn hq hf3
    exact ⟨v',k1,k2⟩
 | _=>intro s G a w h hf; exact h.elim
theorem cV.of_awpD {P:Program}{f:Nat}{fn:Func}{c:Code}{args:List AV}{objs:List Obj}{R:fK→List Obj→Prop} (hf:P.funcs[f]?=some fn) (hb:fn.body=some c)
  (h:ER P objs.length fn.results.toList R c ⟨args ++ List.replicate (fn.ntmps - args.length) .any,objs⟩):cV P f args objs R:=by
 letI:Df:=df0
 intro G w vs hm hc
 refine calls_of_wp_defers hf hb ?_
 have hsat:Sat G ⟨args ++ List.replicate (fn.ntmps - args.length) .any,objs⟩ { tmps:=vs.toArray ++ Array.replicate (fn.ntmps - vs.toArray.size) undef,defers:=[] } w:=by
  refine ⟨hm,?_,rfl⟩
  have:=hc.append (ys:=List.replicate (fn.ntmps - args.length) .any) (vs:=List.replicate (fn.ntmps - args.length) undef) ⟨by simp,fun i x v hx hv=>by
   rw [List.getElem?_replicate] at hx
   split at hx
   ·cases hx; exact .any v
   ·cases hx⟩
  simpa [hc.1] using this
 exact N1 hm.len c _ G _ w h ⟨bG.refl G w,hsat⟩
theorem H4 {P:Program}{p0:Oper}{args:Array Operand}{ats:Array TypeId} (hp:p0.op=.call ⟨.builtin .recover,args,ats⟩) (a:Act) (w:World):(execOp a.eval p0).run P w=.ok .recover w:=by
 simp only [execOp,hp,resolve,Sem.run_bind,Sem.run_pure,Result.andThen_ok,invoke]
 rfl
theorem z7.of_awp {P:Program}{g:Nat}{fn:Func}{c:Code}{id d:Nat}{p0:Oper}{args:Array Operand}{ats:Array TypeId}{cap:List AV}{x:AV}{oin o0:List Obj}
  (hf:P.funcs[g]?=some fn) (hb:fn.body=some (.seq (.region id #[p0] false) c)) (hp:p0.op=.call ⟨.builtin .recover,args,ats⟩) (hd:p0.dst=some d) (hg:p0.guard=none)
  (h:awp P oin.length c ⟨(cap ++ List.replicate (fn.ntmps - cap.length) AV.any).set d x,oin⟩ (e9 P oin.length fn.results.toList (fun ae o=>ae=.ret (.tup [])∧o=o0)) (fun _ _=>False)):z7 P g cap x oin o0:=by
 letI:Df:=df0
 intro G w vs v hm hc hx
 refine callsD_of_wpS hf hb fun c₀ cs hu=>?_
 refine wpS_seq (wpS_region ?_)
 have hsat:Sat G ⟨(cap ++ List.replicate (fn.ntmps - cap.length) AV.any).set d x,oin⟩ (({ tmps:=vs.toArray ++ Array.replicate (fn.ntmps - vs.toArray.size) undef,defers:=[] }:Act).put (some d) v) w:=by
  refine ⟨hm,?_,rfl⟩
  rw [Act.put_toList]
  refine cH.set ?_ d hx
  have:=hc.append (ys:=List.replicate (fn.ntmps - cap.length) .any) (vs:=List.replicate (fn.ntmps - cap.length) undef) ⟨by simp,fun i x v hx hv=>by
   rw [List.getElem?_replicate] at hx
   split at hx
   ·cases hx; exact .any v
   ·cases hx⟩
  simpa [hc.1] using this
 have hw:=wp_mono (iV hm.len (fun ops t i hi=>pU _ ops t i hi) c _ _ G _ w h ⟨bG.refl G w,hsat⟩) (Q':=fun e a' w'=>bodyPostS P fn c₀ cs (fun e u' w'=>(∃ v',e=.returned v')∧u'=.panicking [{ v,recovered:=true }]∧∃ G',Mem G' o0 w'∧bG G w G' w') e a' ({ c₀ with mode:=.panicking [{ v,recovered:=true }] } :: cs) w') ?_
 ·have hw2:=wpS_of_wp (Q:=bodyPostS P fn c₀ cs (fun e u' w'=>(∃ v',e=.returned v')∧u'=.panicking [{ v,recovered:=true }]∧∃ G',Mem G' o0 w'∧bG G w G' w')) (cs:={ c₀ with mode:=.panicking [{ v,recovered:=true }] } :: cs) hw
  show wpOpsS P #[p0] _ [0] _ _ _
  have h0:(#[p0]:Array Oper)[0]?=some p0:=rfl
  simp only [wpOpsS,h0,Region.wanted,hg,if_true,H4 hp,recoverD,hu,hd]
  exact hw2
 ·rintro e a' w' (⟨ax,s',G',h1,h2,h3⟩ | ⟨_,_,_,_,h1,_⟩)
  ·have key:e9 P oin.length fn.results.toList (fun ae o=>ae=.ret (.tup [])∧o=o0) .ret s'→a'.defers=[]∧∃ u',({ c₀ with mode:=.panicking [{ v,recovered:=true }] } :: cs:List Frame)={ c₀ with mode:=u' } :: cs∧∃ v',(results fn a'.tmps).run P w'=.ok v' w' ∧
     ((∃ v'',Ending.returned v'=.returned v'')∧u'=.panicking [{ v,recovered:=true }]∧∃ G',Mem G' o0 w'∧bG G w G' w'):=by
    intro hq
    obtain ⟨v',k1,ae,objs',G2,⟨_,rfl⟩,k3,k4,_⟩:=uL hm.len hq h3
    exact ⟨h3.sat.defers,_,rfl,v',k1,⟨v',rfl⟩,rfl,G2,k3,k4⟩
   cases ax with
   | normal=>cases e <;> first | exact h2.elim | exact key h1
   | exit i=>exact h1.elim
   | ret=>cases e <;> first | exact h2.elim | exact key h1
  ·exact h1.elim
theorem zV.of_awp {P:Program}{g:Nat}{fn:Func}{c:Code}{id d:Nat}{p0:Oper}{args:Array Operand}{ats:Array TypeId}{k:Nat}
  (hf:P.funcs[g]?=some fn) (hb:fn.body=some (.seq (.region id #[p0] false) c)) (hp:p0.op=.call ⟨.builtin .recover,args,ats⟩) (hd:p0.dst=some d) (hg:p0.guard=none)
  (h:awp P 0 c ⟨((List.replicate k AV.any) ++ List.replicate (fn.ntmps - k) AV.any).set d (.v .nilIface),[]⟩ (e9 P 0 fn.results.toList (fun ae o=>ae=.ret (.tup [])∧o=[])) (fun _ _=>False)) (cap:List AV) (objs:List Obj) (hk:cap.length=k):zV P g cap objs:=by
 letI:Df:=df0
 intro G w vs hm hc
 refine callsD_of_wpS hf hb fun c₀ cs hu=>?_
 refine wpS_seq (wpS_region ?_)
 obtain ⟨G1,hm1,_,hback⟩:=HT (oin:=[]) [] objs List.nodup_nil (fun k hk=>by cases hk) rfl (fun i k x hx=>by simp at hx) rfl hm
 have hsat:Sat G1 ⟨((List.replicate k AV.any) ++ List.replicate (fn.ntmps - k) AV.any).set d (.v .nilIface),[]⟩ (({ tmps:=vs.toArray ++ Array.replicate (fn.ntmps - vs.toArray.size) undef,defers:=[] }:Act).put (some d) .nilIface) w:=by
  refine ⟨hm1,?_,rfl⟩
  rw [Act.put_toList]
  refine cH.set ?_ d (.v _ rfl)
  have hvl:vs.length=k:=by rw [hc.1,hk]
  refine ⟨by simp [hvl],fun i x v hx hv=>?_⟩
  have:x=.any:=by
   rw [List.replicate_append_replicate,List.getElem?_replicate] at hx
   split at hx
   ·cases hx; rfl
   ·cases hx
  subst this; exact .any v
 have hw:=wp_mono (iV hm1.len (fun ops t i hi=>pU _ ops t i hi) c _ _ G1 _ w h ⟨bG.refl G1 w,hsat⟩) (Q':=fun e a' w'=>bodyPostS P fn c₀ cs (fun e u' w'=>(∃ v',e=.returned v')∧u'=.returning∧∃ G',Mem G' objs w'∧bG G w G' w') e a' (c₀ :: cs) w') ?_
 ·have hw2:=wpS_of_wp (Q:=bodyPostS P fn c₀ cs (fun e u' w'=>(∃ v',e=.returned v')∧u'=.returning∧∃ G',Mem G' objs w'∧bG G w G' w')) (cs:=c₀ :: cs) hw
  show wpOpsS P #[p0] _ [0] _ _ _
  have h0:(#[p0]:Array Oper)[0]?=some p0:=rfl
  simp only [wpOpsS,h0,Region.wanted,hg,if_true,H4 hp,recoverD,hu,hd]
  exact hw2
 ·rintro e a' w' (⟨ax,s',G',h1,h2,h3⟩ | ⟨_,_,_,_,h1,_⟩)
  ·have key:e9 P 0 fn.results.toList (fun ae o=>ae=.ret (.tup [])∧o=[]) .ret s'→a'.defers=[]∧∃ u',(c₀ :: cs:List Frame)={ c₀ with mode:=u' } :: cs∧∃ v',(results fn a'.tmps).run P w'=.ok v' w' ∧
     ((∃ v'',Ending.returned v'=.returned v'')∧u'=.returning∧∃ G',Mem G' objs w'∧bG G w G' w'):=by
    intro hq
    obtain ⟨v',k1,ae,objs',G2,⟨_,rfl⟩,k3,k4,_⟩:=uL hm1.len hq h3
    obtain ⟨G3,m3,s3,_⟩:=hback w' [] G2 k3 k4 (Nat.le_refl _)
    refine ⟨h3.sat.defers,.returning,by rw [← hu],v',k1,⟨v',rfl⟩,rfl,G3,?_,s3⟩
    simpa [eL,pX] using m3
   cases ax with
   | normal=>cases e <;> first | exact h2.elim | exact key h1
   | exit i=>exact h1.elim
   | ret=>cases e <;> first | exact h2.elim | exact key h1
  ·exact h1.elim
end Go.Proofs.YthgenmkengbmmaaGreatDoor.AM
namespace Go.Proofs.YthgenmkengbmmaaGreatDoor.AM

open Go Go.Lib
end Go.Proofs.YthgenmkengbmmaaGreatDoor.AM
namespace Go.Proofs.YthgenmkengbmmaaGreatDoor.AM
open Go
section
variable {P:Program}{n:Nat}{o:List (Nat × AV)}{objs:List Obj}{t:TypeId}{y:Operand}
theorem Pn {α:Type}{c:α→List D}{l:List α}{i j:TI}{e:TypeId}{len g:Nat}{q:IntKind}{k:Int}{r:α} (ht:ti P t=some i) (hd:i.desc=.array len e) (hj:ti P e=some j) (hg:B3 g=some (l.map c)) (hl:l.length=len)
  (hy:evo n o y=.v (.int q k)) (h0:0≤k) (hr:l[k.toNat]?=some r) (hz:∀ x,(c x).length=j.size) :
  Val P (.indexAddr t (.global g) y) n o objs (.ep (l.map c) k.toNat 0 .none):=by
 have hlt:=(List.getElem?_eq_some_iff.1 hr).1
 have hx:(st n o objs).eval (.global g)=.ep (l.map c) 0 0 .none:=by
  show zW g=_
  unfold zW; rw [hg]
 refine ⟨?_⟩; intro p N E hp hN; unfold aop; rw [hp]; dsimp only; rw [hx,aU,hy]; unfold kE; rw [ht]; dsimp only; rw [hd]; dsimp only; rw [hj]; dsimp only
 refine ⟨h0,by omega,.inr ⟨rfl,by rw [List.length_map]; omega,?_,?_⟩⟩
 ·cases l with
  | nil=>simp at hlt
  | cons a l=>exact hz a
 ·rw [Nat.zero_add]; exact hN
end
def strconv_Itoa (n:Int):Option Str:=gdM (-9223372036854775808≤n∧n≤9223372036854775807) <| some (Lib.itoa n)
def strings_IndexByte (s:Str) (c:Int):Option Int:=some (Lib.indexByte (bs s).data.toList c.toNat.toUInt8)
def Gu (s:Str) (k:Nat):Int × Nat:=(((Utf8.decode (bs s) k).1:Int),(Utf8.decode (bs s) k).2)
def BX {β:Type} (s:Str) (k:Nat) (f:Int→Nat→Option β) (g:Option β):Option β:=if k < s.length then f (Gu s k).1 (k + (Gu s k).2) else g
section
variable {P:Program}{β:Type}{m:Option β}{Φ:β→Prop}{ops rest:List Oper}{K:AS→Prop}{E:AV→AS→Prop}{n d:Nat}{o:List (Nat × AV)}{objs objs':List Obj}{ty t:TypeId}{ps:String}{af:Array Edge}{x:Operand}
theorem Lr {i:TI}{s:Str}{k:Nat} (ht:ti P t=some i) (hd:i.desc=.string) (hx:evo n o x=.v (.string (bs s))) (hk:objs.length=k) (ho:objs ++ [.siter (bs s) 0]=objs'):Eff P (.range t x) n o objs (.ptr k 0) objs':=by
 subst hk; subst ho
 refine ⟨?_⟩; intro p N E hp hN; unfold aop; rw [hp]; dsimp only; rw [aU,hx]; unfold DU; rw [ht]; dsimp only
 exact ⟨hd,hN⟩
theorem S5 {s:Str}{k pos:Nat}{f:Int→Nat→Option β}{g:Option β}{ob:Nat→List Obj} (hx:evo n o x=.ptr k 0) (hi:objs[k]?=some (.siter (bs s) pos)) (ho:∀ w,objs.set k (.siter (bs s) w)=ob w)
  (h1:∀ r w,H (f r w) Φ (rg .p P ops rest (st n (oc d (.tup [.v (.bool true),.v (.int .i64 (pos:Int)),.v (.int .i32 r)]) o) (ob w)) K E))
  (h2:H g Φ (rg .p P ops rest (st n (oc d (.tup [.v (.bool false)]) o) objs) K E)) :
  H (BX s pos f g) Φ (rg .p P ops (⟨some d,.next x true,ty,ps,af,none⟩ :: rest) (st n o objs) K E):=by
 intro y hy hp
 show cY P ops (_ :: rest) (st n o objs) K E
 simp only [cY,dJ]
 unfold aop; dsimp only
 have ee:(st n o objs).eval x=.ptr k 0:=by rw [show (st n o objs).eval x=evo n o x from aU n o objs x]; exact hx
 rw [ee]
 refine Or.inr ?_
 unfold Dy
 simp only [hi]
 have hsz:(bs s).size=s.length:=rfl
 unfold BX at hy
 refine ⟨trivial,fun hn=>?_,fun hn=>?_⟩
 ·rw [hsz] at hn
  rw [if_neg hn] at hy
  rw [show AS.put (st n o objs) (some d) (.tup [.v (.bool false)])=st n (oc d (.tup [.v (.bool false)]) o) objs from A0 n o objs d _]
  exact h2 y hy hp
 ·rw [hsz] at hn
  rw [if_pos hn] at hy
  rw [ho]
  have:=h1 _ _ y hy hp
  rw [show AS.put (st n o objs) (some d) (.tup [.v (.bool true),.v (.int .i64 (pos:Int)),.v (.int .i32 ((Utf8.decode (bs s) pos).1:Int))])=st n (oc d (.tup [.v (.bool true),.v (.int .i64 (pos:Int)),.v (.int .i32 ((Utf8.decode (bs s) pos).1:Int))]) o) objs from A0 n o objs d _]
  exact this
theorem VY {parts:Array (Nat × Operand)}{i j:TI}{e:TypeId}{len k:Nat}{out:List AV}{rows:List (List D)} (ht:ti P t=some i) (hd:i.desc=.slice e) (hj:ti P e=some j) (h0:0 < j.size) (h1:len * j.size≤16777216)
  (h:jM (fun q=>some (q * j.size,j.size)) (rO j.zero j.size len) (parts.toList.map fun p=>(p.1,evo n o p.2))=some out) (hc:rV j.size out len=some rows) (hk:objs.length=k) (ho:objs ++ [.tok rows.length j.size e true]=objs'):Eff P (.buildSlice t len parts) n o objs (.sl rows (.own k)) objs':=by
 subst hk; subst ho
 refine ⟨?_⟩; intro p N E hp hN; unfold aop; rw [hp]; dsimp only; refine Or.inr (Or.inr ?_); unfold GM; rw [ht]; dsimp only; rw [hd]; dsimp only; rw [hj]; dsimp only
 have e:(parts.toList.map fun p=>(p.1,(st n o objs).eval p.2))=parts.toList.map fun p=>(p.1,evo n o p.2):=by simp only [aU]
 rw [e,h]; dsimp only; rw [hc]; exact ⟨h0,h1,hN⟩
def DF {β:Type} (i:Int) (a b c:Option β):Option β:=if i=0 then a else if i=1 then b else if i=2 then c else none
theorem VR {a b c:Option β}{cs c0 c1 c2:List AV}{i j:TI}{e:TypeId}{q:IntKind}{k:Int}{y:Operand} (ht:ti P t=some i) (hd:i.desc=.array 3 e) (hj:ti P e=some j) (hja:j.isAgg=true) (hx:evo n o x=.agg cs) (hl:3 * j.size≤cs.length)
  (hy:evo n o y=.v (.int q k)) (h0:(cs.drop (0 * j.size)).take j.size=c0) (h1:(cs.drop (1 * j.size)).take j.size=c1) (h2:(cs.drop (2 * j.size)).take j.size=c2)
  (Ha:H a Φ (rg .p P ops rest (st n (oc d (.agg c0) o) objs) K E)) (Hb:H b Φ (rg .p P ops rest (st n (oc d (.agg c1) o) objs) K E)) (Hc:H c Φ (rg .p P ops rest (st n (oc d (.agg c2) o) objs) K E)) :
  H (DF k a b c) Φ (rg .p P ops (⟨some d,.index t x y,ty,ps,af,none⟩ :: rest) (st n o objs) K E):=by
 intro z hz hp
 have key:∀ (v:Nat) (cv:List AV),v < 3→k=(v:Int)→(cs.drop (v * j.size)).take j.size=cv→rg .p P ops rest (st n (oc d (.agg cv) o) objs) K E→rg .p P ops (⟨some d,.index t x y,ty,ps,af,none⟩ :: rest) (st n o objs) K E:=by
  intro v cv hv hk hcv hr
  show cY P ops (_ :: rest) (st n o objs) K E
  simp only [cY,dJ]
  unfold aop; dsimp only
  have ee:(st n o objs).eval=evo n o:=funext fun x=>aU n o objs x
  rw [ee,hx,hy]
  unfold oP
  simp only [ht,hd,hj]
  subst hk
  refine ⟨by omega,by omega,?_⟩
  unfold pZ
  rw [Int.toNat_natCast,hcv,if_pos hja]
  refine ⟨?_,?_⟩
  ·have:(v + 1) * j.size≤3 * j.size:=Nat.mul_le_mul_right _ hv
   rw [Nat.add_mul] at this; omega
  ·show rg .p P ops rest (AS.put (st n o objs) (some d) (.agg cv)) K E
   rw [show AS.put (st n o objs) (some d) (.agg cv)=st n (oc d (.agg cv) o) objs from A0 n o objs d _]
   exact hr
 unfold DF at hz
 by_cases k0:k=0
 ·rw [if_pos k0] at hz
  exact key 0 c0 (by omega) (by simpa using k0) h0 (Ha z hz hp)
 ·rw [if_neg k0] at hz
  by_cases k1:k=1
  ·rw [if_pos k1] at hz
   exact key 1 c1 (by omega) (by simpa using k1) h1 (Hb z hz hp)
  ·rw [if_neg k1] at hz
   by_cases k2:k=2
   ·rw [if_pos k2] at hz
    exact key 2 c2 (by omega) (by simpa using k2) h2 (Hc z hz hp)
   ·rw [if_neg k2] at hz; cases hz
theorem Pf {α:Type}{c:α→List D}{l:List α}{i j:TI}{g q:Nat}{e:TypeId} (ht:ti P t=some i) (ha:i.isAgg=true) (hd:i.desc=.array q e) (hj:ti P e=some j) (hg:B3 g=some (l.map c)) (hz:∀ y,(c y).length=j.size) (hs:i.size=l.length * j.size):Val P (.load t (.global g)) n o objs (.agg ((l.map c).flatten.map .ofD)):=by
 have hx:(st n o objs).eval (.global g)=.ep (l.map c) 0 0 .none:=by
  show zW g=_
  unfold zW; rw [hg]
 refine ⟨?_⟩; intro p N E hp hN; unfold aop; rw [hp]; dsimp only; rw [hx]; unfold j7; rw [ht]; dsimp only
 refine Or.inr ⟨rfl,rfl,ha,⟨j.size,fun y hy=>?_,by rw [List.length_map]; exact hs⟩,hN⟩
 obtain ⟨z,_,rfl⟩:=List.mem_map.1 hy
 exact hz z
theorem MC {α:Type}{c:α→List D}{l:List α}{j:TI}{k:Nat}{r:α}{cs:List AV} (hr:l[k]?=some r) (hz:∀ y,(c y).length=j.size) (h:(c r).map .ofD=cs) {K':AV→Prop} (hK:j.isAgg=true→K' (.agg cs)) (hK1:j.isAgg=false→0 < j.size∧K' (cs.getD 0 .any)):pZ j ((l.map c).flatten.map .ofD) (k * j.size) K':=by
 have hu:∀ y ∈ l.map c,y.length=j.size:=fun y hy=>by
  obtain ⟨z,_,rfl⟩:=List.mem_map.1 hy
  exact hz z
 have hrow:(l.map c)[k]?=some (c r):=by rw [List.getElem?_map,hr]; rfl
 have hp:=Dl hu hrow
 have hl:=Ay hu
 have hk:=(List.getElem?_eq_some_iff.1 hr).1
 have hle:k * j.size + j.size≤l.length * j.size:=by
  have:(k + 1) * j.size≤l.length * j.size:=Nat.mul_le_mul_right _ hk
  rw [Nat.add_mul] at this; omega
 unfold pZ
 refine ⟨by rw [List.length_map,hl,List.length_map]; exact hle,?_⟩
 have he:(((l.map c).flatten.map AV.ofD).drop (k * j.size)).take j.size=cs:=by
  rw [← List.map_drop,← List.map_take,hp]; exact h
 split
 ·rename_i hj
  rw [he]; exact hK hj
 ·rename_i hj
  obtain ⟨h0,h1⟩:=hK1 (by simpa using hj)
  refine ⟨h0,?_⟩
  have:((l.map c).flatten.map AV.ofD).getD (k * j.size) .any=cs.getD 0 .any:=by
   rw [← he]
   simp only [List.getD_eq_getElem?_getD]
   rw [List.getElem?_take,if_pos h0,List.getElem?_drop,Nat.add_zero]
  rw [this]; exact h1
theorem SF {α:Type}{c:α→List D}{l:List α}{i j:TI}{len:Nat}{e:TypeId}{q:IntKind}{k:Int}{r:α}{cs:List AV}{y:Operand} (ht:ti P t=some i) (hd:i.desc=.array len e) (hj:ti P e=some j) (hja:j.isAgg=true) (hx:evo n o x=.agg ((l.map c).flatten.map .ofD)) (hln:l.length=len)
  (hy:evo n o y=.v (.int q k)) (h0:0≤k) (hr:l[k.toNat]?=some r) (hz:∀ y,(c y).length=j.size) (h:(c r).map .ofD=cs):Val P (.index t x y) n o objs (.agg cs):=by
 have hk:=(List.getElem?_eq_some_iff.1 hr).1
 refine ⟨?_⟩
 intro p N E hp hN
 unfold aop; rw [hp]; dsimp only
 have ee:(st n o objs).eval=evo n o:=funext fun x=>aU n o objs x
 rw [ee,hx,hy]
 unfold oP
 simp only [ht,hd,hj]
 exact ⟨h0,by omega,MC hr hz h (fun _=>hN) (fun hf=>by rw [hja] at hf; cases hf)⟩
theorem Tb {α:Type}{c:α→List D}{l:List α}{i j:TI}{len:Nat}{e:TypeId}{q:IntKind}{k:Int}{r:α}{d:Value}{y:Operand} (ht:ti P t=some i) (hd:i.desc=.array len e) (hj:ti P e=some j) (hja:j.isAgg=false) (hs:0 < j.size) (hx:evo n o x=.agg ((l.map c).flatten.map .ofD)) (hln:l.length=len)
  (hy:evo n o y=.v (.int q k)) (h0:0≤k) (hr:l[k.toNat]?=some r) (hz:∀ y,(c y).length=j.size) (h:(c r).map AV.ofD=[AV.v d]):Val P (.index t x y) n o objs (.v d):=by
 have hk:=(List.getElem?_eq_some_iff.1 hr).1
 refine ⟨?_⟩
 intro p N E hp hN
 unfold aop; rw [hp]; dsimp only
 have ee:(st n o objs).eval=evo n o:=funext fun x=>aU n o objs x
 rw [ee,hx,hy]
 unfold oP
 simp only [ht,hd,hj]
 exact ⟨h0,by omega,MC hr hz h (fun hf=>by rw [hja] at hf; cases hf) (fun _=>⟨hs,by exact hN⟩)⟩
end
section
variable {P:Program}{n0:Nat}{β:Type}{m:Option β}{Φ:β→Prop}{s:AS}{Q:AX→AS→Prop}{E:AV→AS→Prop}
theorem R2 {c:Code} (h:H m Φ (awp P n0 c s Q E)):H m Φ (awp P n0 (.scope c) s Q E):=h
theorem SP {i:Nat} (h:H m Φ (Q .normal s)):H m Φ (awp P n0 (.label i) s Q E):=h
end
end Go.Proofs.YthgenmkengbmmaaGreatDoor.AM
namespace Go.Proofs.YthgenmkengbmmaaGreatDoor.AM
open Go Go.Proofs
def r7 {β:Type} (_h _e:List Nat) (_r:List (Bool × Nat)) (m:Option β):Option β:=m
def gH (P:Program) (ops:List Oper) (hs ea:List Nat) (K:AS→Prop):List (Bool × Nat)→AS→Prop
 | [],s=>K s
 | (false,i) :: r,s=>match ops[i]? with | some o=>rg .c P ops [o] (s.hid (nB hs ea i)) (fun s1=>gH P ops hs ea K r ⟨s1.tmps,s.objs⟩) (fun _ _=>False) | none=>False
 | (true,i) :: r,s=>match ops[i]? with | some o=>∃ v objs',YE P ops.toArray o s v objs'∧fO (mI hs 0 s.objs) objs'∧(fO s.objs objs' ∨ sE ea o=true)∧gH P ops hs ea K r ⟨(s.put o.dst v).tmps,objs'⟩ | none=>False
theorem Kg (s:AS) (hs:List Nat) (d:Option Nat) (y:AV):(⟨((s.hid hs).put d y).tmps,s.objs⟩:AS)=s.put d y:=by cases d <;> rfl
theorem NP {P:Program}{ops:List Oper}{hs ea:List Nat}{K:AS→Prop}:∀ (r:List (Bool × Nat)) (s:AS),gH P ops hs ea K r s→Bs P ops.toArray hs ea K r s
 | [],_,h=>h
 | (false,i) :: r,s,h=>by
  unfold gH at h
  split at h
  ·rename_i o ho
   obtain ⟨y,h1,h2⟩:=h
   have h2:gH P ops hs ea K r ⟨((s.hid (nB hs ea i)).put o.dst y).tmps,s.objs⟩:=h2
   rw [Kg] at h2
   exact ⟨o,by simpa using ho,y,h1,NP r _ h2⟩
  ·exact h.elim
 | (true,i) :: r,s,h=>by
  unfold gH at h
  split at h
  ·rename_i o ho
   obtain ⟨v,objs',h1,h2,h3,h4⟩:=h
   exact ⟨o,by simpa using ho,v,objs',h1,h2,h3,NP r _ h4⟩
  ·exact h.elim
def gHr (P:Program) (ops:List Oper) (hs ea:List Nat) (K:AS→Prop) (r:List (Bool × Nat)) (objs:List Obj) (s1:AS):Prop:=gH P ops hs ea K r ⟨s1.tmps,objs⟩
section
variable {P:Program}{n0:Nat}{Q:AX→AS→Prop}{E:AV→AS→Prop}{β:Type}{m:Option β}{Φ:β→Prop}{s:AS}{hs ea:List Nat}
theorem Tv {id:Nat}{l:List Oper}{r:List (Bool × Nat)} (e1:P.follows .mixedOrders=true) (e2:Nat.beq r.length l.length=true) (e3:tP l.toArray r (Array.replicate l.toArray.size false)=true) (h:H m Φ (gH P l hs ea (Q .normal) r s)) :
  H (r7 hs ea r m) Φ (awp P n0 (.region id l.toArray true) s Q E):=by
 intro y hy hp
 exact Mf e1 e2 e3 (NP r s (h y hy hp))
theorem VV {K:AS→Prop}{i n:Nat}{o:Oper}{ops:List Oper}{r:List (Bool × Nat)}{ov:List (Nat × AV)}{objs objs1:List Obj} (ho:ops[i]?=some o) (hh:mI (nB hs ea i) 0 objs=objs1)
  (h:H m Φ (rg .c P ops [o] (st n ov objs1) (gHr P ops hs ea K r objs) (fun _ _=>False))):H m Φ (gH P ops hs ea K ((false,i) :: r) (st n ov objs)):=by
 subst hh
 intro y h1 h2; unfold gH; rw [ho]; exact h y h1 h2
theorem Wb {K:AS→Prop}{n:Nat}{ops:List Oper}{r:List (Bool × Nat)}{ov:List (Nat × AV)}{objs objs1:List Obj} (h:H m Φ (gH P ops hs ea K r (st n ov objs))):H m Φ (gHr P ops hs ea K r objs (st n ov objs1)):=h
theorem VM {K:AS→Prop}{i n:Nat}{t:TypeId}{x y:Operand}{ty:TypeId}{pos:String}{af:Array Edge}{ops:List Oper}{r:List (Bool × Nat)}{o o1:List (Nat × AV)}{objs objs':List Obj} (ho:ops[i]?=some ⟨none,.store t x y,ty,pos,af,none⟩)
  (h1:lG (Oper.looksAt ops.toArray ⟨none,.store t x y,ty,pos,af,none⟩) o=o1) (hop:Eff P (.store t x y) n o1 objs .any objs') (hk:fO (mI hs 0 objs) objs') (hq:fO objs objs' ∨ sE ea ⟨none,.store t x y,ty,pos,af,none⟩=true) (h:H m Φ (gH P ops hs ea K r (st n o objs'))) :
  H m Φ (gH P ops hs ea K ((true,i) :: r) (st n o objs)):=by
 subst h1
 intro z hz hq'
 unfold gH
 rw [ho]
 refine ⟨.any,objs',⟨rfl,?_⟩,hk,hq,h z hz hq'⟩
 rw [kH]
 exact hop.run _ _ _ rfl rfl
theorem QP {α:Type}{m:α→Option β}{K:AS→Prop}{i n d g:Nat}{cal:Operand}{args:Array Operand}{at':Array TypeId}{ty:TypeId}{pos:String}{af:Array Edge}{ops:List Oper}{r:List (Bool × Nat)}{o o1:List (Nat × AV)}{objs objs1 objs2 oin:List Obj}
  {first cap argsC:List AV}{e:Option α}{X:α→AV}{O:α→List Obj}{enc:α→AV}{ob:α→List Obj}{ks:List Nat} (hi:ops[i]?=some ⟨some d,.call ⟨.value cal,args,at'⟩,ty,pos,af,none⟩)
  (ho1:lG (Oper.looksAt ops.toArray ⟨some d,.call ⟨.value cal,args,at'⟩,ty,pos,af,none⟩) o=o1) (hc:evo n o1 cal=.fn g first cap) (hen:aW P g=true) (hf:∀ r,e=some r→cW P g argsC oin (X r) (O r))
  (hp:AV.pubL objs (first ++ args.toList.map (evo n o1) ++ cap)=objs1) (hw:leOb objs1 objs2) (hl:objs2.length=objs1.length)
  (hle:AV.leL (AV.stripL (first ++ args.toList.map (evo n o1) ++ cap)) (AV.renL (rn ks objs2.length) argsC)) (hn:r6 ks=true) (hk:wQ objs2.length ks=true)
  (hin:CI (rn ks objs2.length) objs2 ks oin) (ha:AV.idsLtL oin.length argsC=true) (hb:cE oin.length oin=true)
  (hx:∀ r,(X r).ren (rn ks objs2.length)=enc r) (hO:∀ r,tR (rn ks objs2.length) (O r) (nD ks objs2.length (ob r))) (ho:∀ r,eL ks objs2 (nD ks objs2.length (ob r))=ob r) (hkp:∀ r,fO (mI hs 0 objs) (ob r)) (hkq:∀ r,fO objs (ob r) ∨ sE ea ⟨some d,.call ⟨.value cal,args,at'⟩,ty,pos,af,none⟩=true)
  (h:∀ z,H (m z) Φ (gH P ops hs ea K r (st n (oc d (enc z) o) (ob z)))):H (bJ ks objs2 enc ob e m) Φ (gH P ops hs ea K ((true,i) :: r) (st n o objs)):=by
 intro y hy hq
 unfold bJ at hy
 cases he:e with
 | none=>rw [he] at hy; cases hy
 | some z=>
  rw [he] at hy
  subst ho1
  have hop:=EX (at':=at') hc hen hf hp hw hl hle hn hk hin ha hb hx hO ho he
  unfold gH
  rw [hi]
  refine ⟨enc z,ob z,⟨rfl,?_⟩,hkp z,hkq z,?_⟩
  ·rw [kH]
   exact hop.run _ _ _ rfl rfl
  ·have:=h z y hy hq
   rw [show (AS.put (st n o objs) (some d) (enc z))=st n (oc d (enc z) o) objs from rfl]
   exact this
theorem Jg {K:AS→Prop}{i n d:Nat}{op:Op}{v:AV}{ty:TypeId}{pos:String}{af:Array Edge}{ops:List Oper}{r:List (Bool × Nat)}{o o1:List (Nat × AV)}{objs:List Obj} (hi:ops[i]?=some ⟨some d,op,ty,pos,af,none⟩)
  (ho1:lG (Oper.looksAt ops.toArray ⟨some d,op,ty,pos,af,none⟩) o=o1) (hop:Val P op n o1 objs v) (h:H m Φ (gH P ops hs ea K r (st n (oc d v o) objs))):H m Φ (gH P ops hs ea K ((true,i) :: r) (st n o objs)):=by
 subst ho1
 intro z hz hq
 unfold gH
 rw [hi]
 refine ⟨v,objs,⟨rfl,?_⟩,zC hs _ _,.inl (by have:=zC [] 0 objs; rwa [Fk] at this),?_⟩
 ·rw [kH]
  exact hop.run _ _ _ rfl rfl
 ·have:=h z hz hq
  rw [show (AS.put (st n o objs) (some d) v)=st n (oc d v o) objs from rfl]
  exact this
theorem PR {α:Type}{m:α→Option β}{K:AS→Prop}{i n d g:Nat}{cal:Operand}{args:Array Operand}{at':Array TypeId}{ty:TypeId}{pos:String}{af:Array Edge}{ops:List Oper}{r:List (Bool × Nat)}{o o1:List (Nat × AV)}{objs objs1:List Obj}
  {first cap argsC:List AV}{e:Option α}{X:α→AV}{O:α→List Obj}{enc:α→AV}{ob:α→List Obj} (hi:ops[i]?=some ⟨some d,.call ⟨.value cal,args,at'⟩,ty,pos,af,none⟩)
  (ho1:lG (Oper.looksAt ops.toArray ⟨some d,.call ⟨.value cal,args,at'⟩,ty,pos,af,none⟩) o=o1) (hc:evo n o1 cal=.fn g first cap) (hen:aW P g=true) (hf:∀ r,e=some r→Fun P g argsC (X r) (O r)) (ha:AV.idsLtL 0 argsC=true)
  (hle:AV.leL (AV.stripL (first ++ args.toList.map (evo n o1) ++ cap)) argsC)
  (hp:AV.pubL objs (first ++ args.toList.map (evo n o1) ++ cap)=objs1)
  (hx:∀ r,(X r).shift objs1.length=enc r)
  (ho:∀ r,objs1 ++ (O r).map (Obj.shift objs1.length)=ob r) (hkp:∀ r,fO (mI hs 0 objs) (ob r)) (hkq:∀ r,fO objs (ob r) ∨ sE ea ⟨some d,.call ⟨.value cal,args,at'⟩,ty,pos,af,none⟩=true)
  (h:∀ z,H (m z) Φ (gH P ops hs ea K r (st n (oc d (enc z) o) (ob z)))):H (aN enc ob e m) Φ (gH P ops hs ea K ((true,i) :: r) (st n o objs)):=by
 intro y hy hq
 unfold aN at hy
 cases he:e with
 | none=>rw [he] at hy; cases hy
 | some z=>
  rw [he] at hy
  subst hp; subst ho1
  have hop:=AP (at':=at') (enc:=enc) (ob:=ob) hc hen hf ha hle hx ho he
  unfold gH
  rw [hi]
  refine ⟨enc z,ob z,⟨rfl,?_⟩,hkp z,hkq z,?_⟩
  ·rw [kH]
   exact hop.run _ _ _ rfl rfl
  ·have:=h z y hy hq
   rw [show (AS.put (st n o objs) (some d) (enc z))=st n (oc d (enc z) o) objs from rfl]
   exact this
theorem Q2 {α:Type}{m:α→Option β}{K:AS→Prop}{i n d:Nat}{op:Op}{ty:TypeId}{pos:String}{af:Array Edge}{ops:List Oper}{r:List (Bool × Nat)}{o o1:List (Nat × AV)}{objs:List Obj}{enc:α→AV}{ob:α→List Obj}{e:α}
  (hi:ops[i]?=some ⟨some d,op,ty,pos,af,none⟩) (ho1:lG (Oper.looksAt ops.toArray ⟨some d,op,ty,pos,af,none⟩) o=o1) (hop:Eff P op n o1 objs (enc e) (ob e)) (hkp:∀ r,fO (mI hs 0 objs) (ob r)) (hkq:∀ r,fO objs (ob r) ∨ sE ea ⟨some d,op,ty,pos,af,none⟩=true)
  (h:∀ z,H (m z) Φ (gH P ops hs ea K r (st n (oc d (enc z) o) (ob z)))):H (eU enc ob e m) Φ (gH P ops hs ea K ((true,i) :: r) (st n o objs)):=by
 intro y hy hq
 subst ho1
 unfold gH
 rw [hi]
 refine ⟨enc e,ob e,⟨rfl,?_⟩,hkp e,hkq e,?_⟩
 ·rw [kH]
  exact hop.run _ _ _ rfl rfl
 ·have:=h e y hy hq
  rw [show (AS.put (st n o objs) (some d) (enc e))=st n (oc d (enc e) o) objs from rfl]
  exact this
theorem Wk {K:AS→Prop}{ops:List Oper} (h:H m Φ (K s)):H m Φ (gH P ops hs ea K [] s):=h
end
end Go.Proofs.YthgenmkengbmmaaGreatDoor.AM
namespace Go.Proofs.YthgenmkengbmmaaGreatDoor.AM
open Go
def QR {β:Type} (_i _k:Nat) (m:Option β):Option β:=m
def Lc {β:Type} (m:Option β):Option β:=m
def NQ {α β:Type} (_sl:List (Nat × AV)) (_ob:List Obj) (e:Option α) (m:α→Option β):Option β:=e.bind m
section
variable {P:Program}{β:Type}{m:Option β}{Φ:β→Prop}{ops rest:List Oper}{K:AS→Prop}{E:AV→AS→Prop}{n d:Nat}{o:List (Nat × AV)}{objs:List Obj}{ty:TypeId}{pos:String}{af:Array Edge}{op:Op}{v:AV}{x y:Operand}{t t' xt:TypeId}{i:TI}
theorem RU (hop:Val P op n o objs v) (h:H m Φ (rg .p P ops rest (st n (oc d v o) objs) K E)):H (Lc m) Φ (rg .p P ops (⟨some d,op,ty,pos,af,none⟩ :: rest) (st n o objs) K E):=S_v hop h
theorem Sq (a b:Int):AV.ofValue (.agg #[.int .i64 a,.int .i64 b])=.agg [vI a,vI b]:=by
 simp [AV.ofValue,Value.oneCell',vI]
theorem Uh {T:Nat}{z:Flt} (ht:ti P t=some i) (hd:i.desc=.interface #[]) (hx:evo n o x=nX T z) (hy:evo n o y=.v .nilIface):Val P (.binOp .eql t x y t') n o objs (vB false):=by
 refine ⟨?_⟩; intro p N E hp hN; unfold aop; rw [hp]; dsimp only; rw [aU,aU,hx,hy]
 exact ⟨by rw [(bT ht).1,hd],rfl,hN⟩
theorem Uo (ht:ti P t=some i) (hd:i.desc=.interface #[]) (hx:evo n o x=.v .nilIface) (hy:evo n o y=.v .nilIface):Val P (.binOp .eql t x y t') n o objs (vB true):=by
 refine ⟨?_⟩; intro p N E hp hN; unfold aop; rw [hp]; dsimp only; rw [aU,aU,hx,hy]
 exact ⟨by rw [(bT ht).1,hd],rfl,hN⟩
theorem WT {z:Flt} (ht:ti P t=some i) (hd:Ji i.desc=false) (hx:evo n o x=nX t z):Val P (.typeAssert x xt t true) n o objs (.tup [.agg [vI z.1,vI z.2],vB true]):=by
 refine ⟨?_⟩; intro p N E hp hN; unfold aop; rw [hp]; dsimp only; rw [aU,hx,ht]
 exact ⟨hd,rfl,rfl,by rw [Sq]; exact hN⟩
end
theorem MT:∀ {xs ys:List Obj},ys.length≤xs.length→(∀ (i:Nat) (x y:Obj),xs[i]?=some x→ys[i]?=some y→DK x y)→leOb xs ys
 | xs,[],_,_=>xJ xs
 | [],_ :: _,h,_=>by simp at h
 | x :: xs,y :: ys,h,k=>⟨k 0 x y rfl rfl,MT (by simpa using h) (fun i a b ha hb=>k (i + 1) a b (by simpa using ha) (by simpa using hb))⟩
def GE (n:Nat):List Nat→Bool
 | []=>true
 | k :: ks=>Nat.ble n k && GE n ks
theorem H2 {n i:Nat} (hi:i < n):∀ {ks:List Nat},GE n ks=true→i ∉ ks
 | [],_=>by simp
 | k :: ks,h=>by
  simp only [GE,Bool.and_eq_true] at h
  have:=Nat.le_of_ble_eq_true h.1
  simp only [List.mem_cons,not_or]
  exact ⟨by omega,H2 hi h.2⟩
theorem QN {ks:List Nat}{l o0 ob:List Obj} (hk:GE ob.length ks=true) (h:leOb l ob):leOb (eL ks l o0) ob:=by
 obtain ⟨h1,h2⟩:=xF h
 refine MT (Nat.le_trans h1 (Fy ks l o0)) fun i x y hx hy=>?_
 have hi:i < ob.length:=(List.getElem?_eq_some_iff.1 hy).1
 have hil:i < l.length:=by omega
 unfold eL at hx
 rw [List.getElem?_append_left (by rw [eZ]; exact hil),oI _ _ _ _ (H2 hi hk)] at hx
 exact h2 i x y hx hy
theorem RP {n1 n:Nat}{o sl:List (Nat × AV)}{ks:List Nat}{l o0 ob:List Obj} (hk:GE ob.length ks=true) (h:leO o sl) (ho:leOb l ob) (hn:n1≤ob.length) (h1:BF ob.length sl=true) (h2:cE ob.length ob=true) :
  cC n1 (st n o (eL ks l o0)) (st n sl ob):=Hm h (QN hk ho) hn h1 h2
def UR (P:Program) (n0 _k:Nat) (rs:List ResultVar) (R:fK→List Obj→Prop) (f:Operand) (b:Code) (s1:AS):Prop :=
 ∃ g cap,s1.eval f=.fn g [] cap∧aW P g=true∧awp P s1.objs.length b (s1.put none .any) (Jz P n0 rs R g cap) (HE P n0 s1.objs.length rs R g cap)
section
variable {P:Program}{n0 n1 n k g:Nat}{rs:List ResultVar}{R:fK→List Obj→Prop}{β α:Type}{m:Option β}{me:α→Option β}{Φ:β→Prop}{s:AS}{o sl:List (Nat × AV)}{objs ob:List Obj}{cap:List AV}{f:Operand}{b:Code}
theorem Vd {a:Code} (h:H m Φ (awp P n0 a s (nM n0 (fun s'=>ER P n0 rs R b s') (e9 P n0 rs R)) (fun x s'=>R (.pan x) s'.objs))):H m Φ (ER P n0 rs R (.seq a b) s):=fun y h1 h2=>.inl (h y h1 h2)
theorem WG {id i:Nat}{l l':List Oper}{ats:Array TypeId}{ty:TypeId}{pos:String}{af:Array Edge} (h1:l.take i=l') (h2:l.drop i=[⟨none,.defer ⟨.value f,#[],ats⟩,ty,pos,af,none⟩])
  (h:H m Φ (rg .p P l l' s (UR P n0 k rs R f b) (fun _ _=>False))):H (QR i k m) Φ (ER P n0 rs R (.seq (.region id l.toArray false) b) s):=by
 intro y k1 k2
 refine .inr ⟨id,l,rfl,l',⟨none,.defer ⟨.value f,#[],ats⟩,ty,pos,af,none⟩,f,ats,?_,rfl,rfl,h y k1 k2⟩
 rw [← h1,← h2,List.take_append_drop]
theorem Tt (he:evo n o f=.fn g [] cap) (hen:aW P g=true) (hk:Nat.beq objs.length k=true) (h:H m Φ (awp P k b (st n o objs) (Jz P n0 rs R g cap) (HE P n0 k rs R g cap))):H m Φ (UR P n0 k rs R f b (st n o objs)):=by
 have hk:=Nat.eq_of_beq_eq_true hk
 subst hk
 exact fun y k1 k2=>⟨g,cap,by rw [aU]; exact he,hen,h y k1 k2⟩
theorem Sk (hc:zV P g cap objs) (h:H m Φ (e9 P n0 rs R .ret (st n o objs))):H m Φ (Jz P n0 rs R g cap .ret (st n o objs)):=fun y k1 k2=>⟨hc,h y k1 k2⟩
theorem PH {T:Nat}{z:Flt}{e:Option α}{O:α→List Obj} (hw:cC n1 s (st n sl ob)) (hc:∀ r,e=some r→z7 P g cap (nX T z) ob (O r)) (h:∀ r,H (me r) Φ (e9 P n0 rs R .ret (st n sl (O r)))):H (NQ sl ob e me) Φ (HE P n0 n1 rs R g cap (nX T z) s):=by
 intro y hy hq
 cases he:e with
 | none=>rw [he] at hy; cases hy
 | some r=>
  rw [he] at hy
  exact ⟨_,_,_,rfl,hw,hc r he,h r y hy hq⟩
end
theorem S7 {P:Program}{n0 n1 n g:Nat}{rs:List ResultVar}{R:fK→List Obj→Prop}{β α:Type}{me:α→Option β}{Φ:β→Prop}{o sl:List (Nat × AV)}{objs ob:List Obj}{cap:List AV}{T:Nat}{z:Flt}{e:Option α}{O:α→List Obj}{W:List Nat}
  (hw:cC n1 (st n (NW o W) objs) (st n sl ob)) (hc:∀ r,e=some r→z7 P g cap (nX T z) ob (O r)) (h:∀ r,H (me r) Φ (e9 P n0 rs R .ret (st n sl (O r)))):H (NQ sl ob e me) Φ (HE P n0 n1 rs R g cap (nX T z) ((st n o objs).kill W)):=by
 rw [MW]; exact PH hw hc h
theorem cW.of_modelD {P:Program}{β:Type}{f:Nat}{fn:Func}{c:Code}{args:List AV}{oin:List Obj}{m:Option β}{X:β→AV}{O:β→List Obj}{r:β} (hf:P.funcs[f]?=some fn) (hb:fn.body=some c) (hl:args.length≤fn.ntmps) (hm:m=some r) {n0:Nat} (hn0:oin.length=n0)
  (h:H m (fun y=>y=r) (ER P n0 fn.results.toList (lQ X O r) c (st fn.ntmps (bD 0 args) oin))):cW P f args oin (X r) (O r):=by
 subst hn0
 have h2:=h r hm rfl
 refine cV.mono (R:=lQ X O r) (cV.of_awpD hf hb ?_) (fun _ _ h=>h)
 rw [AQ args fn.ntmps hl]
 exact h2
theorem z7.of_model {P:Program}{β:Type}{g:Nat}{fn:Func}{c:Code}{id d:Nat}{p0:Oper}{args:Array Operand}{ats:Array TypeId}{cap:List AV}{T:Nat}{z:Flt}{oin:List Obj}{m:Option β}{O:β→List Obj}{r:β}
  (hf:P.funcs[g]?=some fn) (hb:fn.body=some (.seq (.region id #[p0] false) c)) (hp:p0.op=.call ⟨.builtin .recover,args,ats⟩) (hd:p0.dst=some d) (hg:p0.guard=none) (hl:cap.length≤fn.ntmps) (hm:m=some r) {n0:Nat} (hn0:oin.length=n0)
  (h:H m (fun y=>y=r) (awp P n0 c (st fn.ntmps (oc d (nX T z) (bD 0 cap)) oin) (e9 P n0 fn.results.toList (lQ (fun _=>.tup []) O r)) (fun _ _=>False))):z7 P g cap (nX T z) oin (O r):=by
 subst hn0
 refine z7.of_awp hf hb hp hd hg ?_
 rw [AQ cap fn.ntmps hl]
 exact h r hm rfl
theorem US (k n:Nat) (h:k≤n):List.replicate k AV.any ++ List.replicate (n - k) AV.any=ov n E2:=by
 rw [List.replicate_append_replicate,show k + (n - k)=n by omega]
 rfl
theorem zV.of_model {P:Program}{g:Nat}{fn:Func}{c:Code}{id d k:Nat}{p0:Oper}{args:Array Operand}{ats:Array TypeId}{m:Option Bool}
  (hf:P.funcs[g]?=some fn) (hb:fn.body=some (.seq (.region id #[p0] false) c)) (hp:p0.op=.call ⟨.builtin .recover,args,ats⟩) (hd:p0.dst=some d) (hg:p0.guard=none) (hl:k≤fn.ntmps) (hm:m=some true)
  (h:H m (fun y=>y=true) (awp P 0 c (st fn.ntmps (oc d (.v .nilIface) E2) []) (e9 P 0 fn.results.toList (lQ (fun _=>.tup []) (fun _=>[]) true) ) (fun _ _=>False))) (cap:List AV) (objs:List Obj) (hk:cap.length=k):zV P g cap objs:=by
 refine zV.of_awp hf hb hp hd hg ?_ cap objs hk
 rw [US k fn.ntmps hl]
 exact h true hm rfl
section
variable {P:Program}{n:Nat}{o:List (Nat × AV)}{objs:List Obj}{x y:Operand}{t:TypeId}{κ α:Type} [DecidableEq κ] {kv:κ→Value}{av:α→AV}{es:List (κ × α)}{i ki:TI}{kt et:TypeId}{k:Nat}{key:κ}{zv:Value}{zl:List Value}
 (ht:ti P t=some i) (hd:i.desc=.map kt et) (hk:ti P kt=some ki) (hx:evo n o x=.map k) (ho:objs[k]?=some (.map (mp kv av es)))
include ht hd hk hx ho
theorem PT {a:α} (hl:mlk es key=some a) (hq:Bz P kt kv ki.desc) (hz:(P.info? et).bind (·.zero)=some zv) (hy:xA (evo n o y)=some (kv key)):Val P (.lookup t x y true) n o objs (.tup [av a,.v (.bool true)]) :=
 A7 ht hd hk hx ho hq hy hz (fun b hb=>by rw [hl] at hb; cases hb; rfl) (fun h=>by rw [hl] at h; cases h)
theorem MH {a:α} (hl:mlk es key=some a) (hq:Bz P kt kv ki.desc) (hz:(P.info? et).bind (·.zero)=some zv) (hy:xA (evo n o y)=some (kv key)):Val P (.lookup t x y false) n o objs (av a) :=
 A7 ht hd hk hx ho hq hy hz (fun b hb=>by rw [hl] at hb; cases hb; rfl) (fun h=>by rw [hl] at h; cases h)
theorem PY (hl:mlk es key=none) (hq:Bz P kt kv ki.desc) (hz:(P.info? et).bind (·.zero)=some (.agg zl.toArray)) (h1:zl.all (·.oneCell')=true) (hy:xA (evo n o y)=some (kv key)):Val P (.lookup t x y true) n o objs (.tup [.agg (zl.map .v),.v (.bool false)]):=by
 rw [← uI h1]
 exact A7 ht hd hk hx ho hq hy hz (fun b hb=>by rw [hl] at hb; cases hb) (fun _=>rfl)
theorem MG (hl:mlk es key=none) (hq:Bz P kt kv ki.desc) (hz:(P.info? et).bind (·.zero)=some (.agg zl.toArray)) (h1:zl.all (·.oneCell')=true) (hy:xA (evo n o y)=some (kv key)):Val P (.lookup t x y false) n o objs (.agg (zl.map .v)):=by
 rw [← uI h1]
 exact A7 ht hd hk hx ho hq hy hz (fun b hb=>by rw [hl] at hb; cases hb) (fun _=>rfl)
end
def Rr {β:Type} (_b _j _k:Nat) (m:Option β):Option β:=m
theorem KY {objs:List Obj}{k b:Nat}{cells:List AV} (hb:objs[b]?=some (.box cells)):(b8 objs k)[b]?=some (.box cells):=by
 unfold b8
 split
 ·rename_i l sz e ex h
  rw [List.getElem?_set]
  by_cases e1:k=b
  ·subst e1; rw [hb] at h; cases h
  ·rw [if_neg e1]; exact hb
 ·exact hb
theorem Wo {n0 n b j k:Nat}{o:List (Nat × AV)}{objs objs':List Obj}{cells:List AV}{rows:List (List D)} (hb:objs[b]?=some (.box cells)) (hc:cells[j]?=some (.sl rows (.own k)))
  (ho:(b8 objs k).set b (.box (cells.set j (.sl rows .none)))=objs'):cC n0 (st n o objs) (st n o objs'):=by
 subst ho
 intro _ G0 w0 G a w hn hf
 obtain ⟨G',h1,h2,h3⟩:=Gk (.sl rows (.own k)) G objs hf.sat.mem
 have h2:Mem G' (b8 objs k) w:=h2
 refine ⟨G',hf.step.trans h1,⟨by rw [List.length_set]; exact h2.len,?_,h2.inj,h2.lt,h2.immLt⟩,hf.sat.tmps.mono h1.ext,hf.sat.defers⟩
 intro i x g hx hg
 rw [List.getElem?_set] at hx
 by_cases e:b=i
 ·subst e
  rw [if_pos rfl] at hx
  split at hx
  ·cases hx
   rcases h2.ok b _ g (KY hb) hg with ⟨rfl,hl⟩ | ⟨bb,c,e,rfl,k1,k2,k3,k4⟩
   ·cases hc
   ·refine .inr ⟨bb,c,e,rfl,k1,by rw [List.length_set]; exact k2,fun i x v hx hv=>?_,k4⟩
    rw [List.getElem?_set] at hx
    by_cases ej:j=i
    ·subst ej
     rw [if_pos rfl] at hx
     split at hx
     ·cases hx
      refine ⟨(k3 j _ v hc hv).1,?_⟩
      obtain ⟨g0,hg0,hok⟩:=hf.sat.mem.obj hb
      rcases hok with ⟨rfl,_⟩ | ⟨bb',c',e',rfl,q1,q2,q3,q4⟩
      ·cases hc
      ·cases hg.symm.trans (h1.ext.obj _ _ hg0)
       rw [q1] at k1
       cases k1
       exact h3 v (q3 j _ v hc hv).2
     ·cases hx
    ·rw [if_neg ej] at hx
     exact k3 i x v hx hv
  ·cases hx
 ·rw [if_neg e] at hx
  exact h2.ok i x g hx hg
theorem VF {n0 n b j k:Nat}{β:Type}{m:Option β}{Φ:β→Prop}{Q:AX→AS→Prop}{next:AS→Prop}{o:List (Nat × AV)}{objs objs':List Obj}{cells:List AV}{rows:List (List D)} (hb:objs[b]?=some (.box cells)) (hc:cells[j]?=some (.sl rows (.own k)))
  (ho:(b8 objs k).set b (.box (cells.set j (.sl rows .none)))=objs') (hr:H m Φ (nM n0 next Q .normal (st n o objs'))):H (Rr b j k m) Φ (nM n0 next Q .normal (st n o objs)):=by
 intro y hy hp
 exact oY.pre (Wo hb hc ho) (hr y hy hp)
end Go.Proofs.YthgenmkengbmmaaGreatDoor.AM
