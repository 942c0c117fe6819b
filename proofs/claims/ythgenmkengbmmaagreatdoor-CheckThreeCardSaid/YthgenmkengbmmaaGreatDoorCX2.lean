/- X2 -/
import Derived.Test.YthgenmkengbmmaaGreatDoorCX1
import Derived.Recover
import Derived.Lib.Overlaps
import Derived.Lib.AppendZerosOnto
import Derived.Lib.ItoaNum
set_option linter.all false
namespace Go.Proofs.YthgenmkengbmmaaGreatDoor.AM
open Go
abbrev Flt:=Int × Int
def pE (T:Nat) (z:Flt):AV:=.v (.iface T (.agg #[.int .i64 z.1,.int .i64 z.2]))
def cV {α:Type} (z:Flt):Option (Except Flt α):=some (.error z)
def okM {α:Type} (x:α):Option (Except Flt α):=some (.ok x)
def kR {β:Type} (m:Option β):Option β:=m
def eY {α β:Type} (_ks:List Nat) (_w:List Obj) (_enc:α→AV) (_ob:α→List Obj) (e:Option (Except Flt α)) (me:Flt→Option β) (m:α→Option β):Option β :=
 e.bind fun x=>match x with | .ok r=>m r | .error z=>me z
def D3 {β:Type} (_W:List Nat) (_t:Tr) (m:Option β):Option β:=m
def Gh {α:Type} (X:α→AV) (O:α→List Obj) (T n0:Nat) (r:Except Flt α):gC→List Obj→Prop:=fun ae o=>
 match r with
 | .ok y=>ae=.ret (X y)∧o=O y
 | .error z=>ae=.pan (pE T z)∧n0≤o.length
def jD {α:Type} (P:Program) (f:Nat) (args:List AV) (oin:List Obj) (X:α→AV) (O:α→List Obj) (T:Nat) (r:Except Flt α):Prop:=cZ P f args oin (Gh X O T oin.length r)
theorem jD.of_model {P:Program}{α:Type}{f:Nat}{fn:Func}{c:Code}{args:List AV}{oin:List Obj}{m:Option (Except Flt α)}{X:α→AV}{O:α→List Obj}{T:Nat}{r:Except Flt α} (hf:P.funcs[f]?=some fn) (hb:fn.body=some c) (hl:args.length≤fn.ntmps) (hm:m=some r) {n0:Nat} (hn0:oin.length=n0)
  (h:H m (fun y=>y=r) (awp P n0 c (st fn.ntmps (bF 0 args) oin) (fG P n0 fn.results.toList (Gh X O T n0 r)) (fun x s=>Gh X O T n0 r (.pan x) s.objs))):jD P f args oin X O T r:=by
 subst hn0
 have h2:=h r hm rfl
 refine cZ.mono (R:=Gh X O T oin.length r) (cZ.of_awp hf hb ?_) (fun _ _ h=>h)
 rw [BA args fn.ntmps hl]
 exact h2
section
variable {P:Program}{α β:Type}{n0 n:Nat}{s:AS}{rs:List ResultVar}{X:α→AV}{O:α→List Obj}{T:Nat}{r:Except Flt α}{v:α}
theorem Xr {z:Flt}{objs:List Obj} (hn:n0≤objs.length):H (cV z) (fun y=>y=r) (Gh X O T n0 r (.pan (pE T z)) objs):=by
 intro y hy hr
 cases hy
 subst hr
 exact ⟨rfl,hn⟩
theorem Yz {ax:AX} (h:∀ r',H (aG v) (fun y=>y=r') (fG P n0 rs (mA X O r') ax s)):H (okM v) (fun y=>y=r) (fG P n0 rs (Gh X O T n0 r) ax s):=by
 intro y hy hr
 cases hy
 subst hr
 exact h v v rfl rfl
end
section
variable {P:Program}{β α:Type}{m:α→Option β}{me:Flt→Option β}{mm:Option β}{Φ:β→Prop}{ops rest:List Oper}{K:AS→Prop}{E:AV→AS→Prop}{n d g:Nat}{o:List (Nat × AV)}{objs objs1 objs2 oin:List Obj}{ty:TypeId}{pos:String}{af:Array Edge}
 {cal:Operand}{args:Array Operand}{at':Array TypeId}{first cap argsC:List AV}{e:Option (Except Flt α)}{X:α→AV}{O:α→List Obj}{T:Nat}{enc:α→AV}{ob:α→List Obj}{ks:List Nat}{x:Operand}
theorem Tc {f:Nat→Nat}{ks:List Nat}{n:Nat}{oin:List Obj}{ob:α→List Obj}{r:Except Flt α} (hlen:ks.length=oin.length) (h:∀ r,vM f (O r) (nP ks n (ob r))):∀ (ae:gC) (o:List Obj),Gh X O T oin.length r ae o→oin.length≤o.length:=by
 intro ae o hr
 cases r with
 | ok y=>exact JV hlen (h y) ae o hr
 | error z=>exact hr.2
theorem Si {o1:List (Nat × AV)}{p:Oper}{N:AS→Prop} (hp':p.op=.call ⟨.value cal,args,at'⟩) (hc:evo n o1 cal=.fn g first cap) (hen:aU P g=true) (hf:∀ r,e=some r→jD P g argsC oin X O T r)
  (hp:AV.pubL objs (first ++ args.toList.map (evo n o1) ++ cap)=objs1) (hw:leOb objs1 objs2) (hl:objs2.length=objs1.length)
  (hle:AV.leL (AV.stripL (first ++ args.toList.map (evo n o1) ++ cap)) (AV.renL (rn ks objs2.length) argsC)) (hn:tK ks=true) (hk:xZ objs2.length ks=true)
  (hin:Em (rn ks objs2.length) objs2 ks oin) (ha:AV.idsLtL oin.length argsC=true) (hb:cM oin.length oin=true)
  (hx:∀ r,(X r).ren (rn ks objs2.length)=enc r) (hO:∀ r,vM (rn ks objs2.length) (O r) (nP ks objs2.length (ob r))) (ho:∀ r,eR ks objs2 (nP ks objs2.length (ob r))=ob r)
  {r:Except Flt α} (hr:e=some r) (h1:∀ y,r=.ok y→N { (st n o1 objs).put p.dst (enc y) with objs:=ob y }) (h2:∀ z o0,r=.error z→oin.length≤o0.length→E (pE T z) ⟨(st n o1 objs).tmps,eR ks objs2 o0⟩):aop P p (st n o1 objs) N E:=by
 unfold aop; rw [hp']; dsimp only
 have ee:(st n o1 objs).eval=evo n o1:=funext fun x=>aX n o1 objs x
 rw [ee,hc]; dsimp only
 refine ⟨hen,?_⟩
 refine cZ.strip ?_
 show cZ P g _ (AV.pubL objs _) _
 rw [hp]
 refine cZ.leOb hl hw (cZ.le hle ?_)
 obtain ⟨hlen,hget⟩:=Gv hin
 refine (cZ.frameR (hf r hr) (Tc hlen hO) ks objs2 (EG hn) (GD hk) hlen hget ha hb).mono ?_
 rintro ae oo ⟨ae0,o0,hR,rfl,rfl⟩
 cases r with
 | ok y=>
  obtain ⟨rfl,rfl⟩:=hR
  show N _
  rw [De (hO y),ho y,hx y]; exact h1 y rfl
 | error z=>
  obtain ⟨rfl,hl0⟩:=hR
  show E (pE T z) _
  exact h2 z _ rfl (by simpa using hl0)
theorem TA (hc:evo n o cal=.fn g first cap) (hen:aU P g=true) (hf:∀ r,e=some r→jD P g argsC oin X O T r)
  (hp:AV.pubL objs (first ++ args.toList.map (evo n o) ++ cap)=objs1) (hw:leOb objs1 objs2) (hl:objs2.length=objs1.length)
  (hle:AV.leL (AV.stripL (first ++ args.toList.map (evo n o) ++ cap)) (AV.renL (rn ks objs2.length) argsC)) (hn:tK ks=true) (hk:xZ objs2.length ks=true)
  (hin:Em (rn ks objs2.length) objs2 ks oin) (ha:AV.idsLtL oin.length argsC=true) (hb:cM oin.length oin=true)
  (hx:∀ r,(X r).ren (rn ks objs2.length)=enc r) (hO:∀ r,vM (rn ks objs2.length) (O r) (nP ks objs2.length (ob r))) (ho:∀ r,eR ks objs2 (nP ks objs2.length (ob r))=ob r)
  (he:∀ z o0,oin.length≤o0.length→H (me z) Φ (E (pE T z) (st n o (eR ks objs2 o0))))
  (h:∀ r,H (m r) Φ (rg .p P ops rest (st n (oc d (enc r) o) (ob r)) K E)):H (eY ks objs2 enc ob e me m) Φ (rg .p P ops (⟨some d,.call ⟨.value cal,args,at'⟩,ty,pos,af,none⟩ :: rest) (st n o objs) K E):=by
 intro y hy hq
 unfold eY at hy
 cases hee:e with
 | none=>rw [hee] at hy; cases hy
 | some r=>
  rw [hee] at hy
  unfold rg; dsimp only; unfold dB dK; dsimp only
  refine Si (ks:=ks) (at':=at') (O:=O) (p:=⟨some d,.call ⟨.value cal,args,at'⟩,ty,pos,af,none⟩) rfl hc hen hf hp hw hl hle hn hk hin ha hb hx hO ho hee ?_ ?_
  ·rintro y' rfl
   have:=h y' y hy hq
   exact this
  ·rintro z o0 rfl hlen
   exact he z o0 hlen y hy hq
theorem GW {α:Type} (ks:List Nat) (l l':List α):l.length≤(eR ks l l').length:=by simp [eR,fE]
theorem Xh {z:Flt}{d:Option Nat} (hx:evo n o x=pE T z) (h:H mm Φ (E (pE T z) (st n o objs))):H (kR mm) Φ (rg .p P ops (⟨d,.panic x,ty,pos,af,none⟩ :: rest) (st n o objs) K E):=by
 intro y hy hq
 unfold rg; dsimp only; unfold dB dK; dsimp only; unfold aop; dsimp only
 rw [aX,hx]
 exact h y hy hq
theorem Yc {t:TypeId}{i:TI}{a b:Int} (ht:ti P t=some i) (hd:KR i.desc=false) (hx:evo n o x=.agg [vI a,vI b]):Val P (.makeInterface t x) n o objs (pE t (a,b)):=by
 refine ⟨?_⟩; intro p N E hp hN; unfold aop; rw [hp]; dsimp only; rw [aX,hx,ht]
 exact ⟨hd,hN⟩
end
def Pf (o:List (Nat × AV)):List Nat→List (Nat × AV)
 | []=>o
 | i :: is=>Pf (oc i .any o) is
theorem Ox (n:Nat) (objs:List Obj):∀ (W:List Nat) (o:List (Nat × AV)),(st n o objs).kill W=st n (Pf o W) objs
 | [],_=>rfl
 | i :: W,o=>Ox n objs W (oc i .any o)
section
variable {P:Program}{β:Type}{m:Option β}{Φ:β→Prop}{n0 n d:Nat}{Q:AX→AS→Prop}{K:AS→Prop}{E:AV→AS→Prop}{s:AS}{ops:Array Oper}{W:List Nat}{t r:Tr}{i:Nat}{o:List (Nat × AV)}{objs:List Obj}{ty:TypeId}{pos:String}{af:Array Edge}{x:Operand}
theorem Sv {id:Nat}{l:List Oper} (e1:P.follows .mixedOrders=true) (e2:Region.noSelect l.toArray=true) (e3:trB l.toArray W l.toArray.size t (Array.replicate l.toArray.size false)=true) (h:H m Φ (gX P l.toArray W (Q .normal) E t s)) :
  H (D3 W t m) Φ (awp P n0 (.region id l.toArray true) s Q E):=fun y h1 h2=>KN e1 e2 e3 (h y h1 h2)
theorem Xl (h:H m Φ (K s)):H m Φ (gX P ops W K E .lf s):=fun y h1 h2=>by simpa [gX] using h y h1 h2
theorem Jm {l l':List Oper}{p:Oper} (h:l.drop i=p :: l'):l.toArray[i]?=some p:=by
 have:(l.drop i)[0]?=some p:=by rw [h]; rfl
 simpa using this
variable {l l':List Oper}
theorem Qi {p:Oper}{y:AV} (ho:l.drop i=p :: l') (hg:p.guard=none) (hp:GM P p s y) (h:H m Φ (gX P l.toArray W K E t (s.put p.dst y))):H m Φ (gX P l.toArray W K E (.pf i t) s):=fun z h1 h2=>by
 simp only [gX]; exact ⟨p,y,Jm ho,hg,hp,h z h1 h2⟩
theorem qX {v:AV} (ho:l.drop i=⟨some d,.move x,ty,pos,af,none⟩ :: l') (hv:evo n o x=v) (h:H m Φ (gX P l.toArray W K E t (st n (oc d v o) objs))):H m Φ (gX P l.toArray W K E (.pf i t) (st n o objs)) :=
 Qi ho rfl (show v=_ by rw [aX,hv]) h
theorem V9 {k off:Nat} (ho:l.drop i=⟨some d,.nilCheck x,ty,pos,af,none⟩ :: l') (hv:evo n o x=.ptr k off) (h:H m Φ (gX P l.toArray W K E t (st n (oc d (.ptr k off) o) objs))):H m Φ (gX P l.toArray W K E (.pf i t) (st n o objs)) :=
 Qi ho rfl (show ∃ o' off',_ from ⟨k,off,by rw [aX,hv],rfl⟩) h
theorem Ve {k off off' f:Nat}{tt:TypeId} (ho:l.drop i=⟨some d,.fieldAddr tt x f,ty,pos,af,none⟩ :: l') (hv:evo n o x=.ptr k off) (hf:iM P tt f (.ptr k off) (fun r=>r=.ptr k off')) (h:H m Φ (gX P l.toArray W K E t (st n (oc d (.ptr k off') o) objs))):H m Φ (gX P l.toArray W K E (.pf i t) (st n o objs)) :=
 Qi ho rfl (show ∃ o' off1 off2,_ from ⟨k,off,off',by rw [aX,hv],rfl,hf⟩) h
theorem Wk {tt:TypeId}{f k off off':Nat}{ti1 tj:TI}{fd:Field} (h1:ti P tt=some ti1) (h2:lO ti1 f=some fd) (h3:ti P fd.type=some tj) (h4:tj.size ≠ 0) (h5:off + fd.offset=off'):iM P tt f (.ptr k off) (fun r=>r=.ptr k off'):=by
 unfold iM; rw [h1]; dsimp only; rw [h2]; dsimp only; rw [h3]; dsimp only; exact ⟨h4,by rw [h5]⟩
theorem Xu {p:Oper} (ho:l.drop i=p :: l') (hg:p.guard=none) (h:H m Φ (rg .p P l [p] s (gX P l.toArray W K E t) (fun x s'=>E x (s'.kill W)))) (h2:H m Φ (vE P l.toArray W K E r s)):H m Φ (gX P l.toArray W K E (.nd i t r) s):=by
 intro y k1 k2
 simp only [gX]
 refine ⟨⟨p,Jm ho,hg,?_⟩,h2 y k1 k2⟩
 have h3:dK P l s p _ _ _:=h y k1 k2
 unfold dK at h3
 rw [hg] at h3
 exact h3
theorem Xc {p:Oper} (ho:l.drop i=p :: l') (hg:p.guard=none) (h:H m Φ (rg .p P l [p] s (gX P l.toArray W K E t) (fun x s'=>E x (s'.kill W)))) (h2:H m Φ (vE P l.toArray W K E r s)):H m Φ (vE P l.toArray W K E (.nd i t r) s):=by
 intro y k1 k2
 simp only [vE]
 refine ⟨⟨p,Jm ho,hg,?_⟩,h2 y k1 k2⟩
 have h3:dK P l s p _ _ _:=h y k1 k2
 unfold dK at h3
 rw [hg] at h3
 exact h3
theorem V7:H m Φ (vE P ops W K E .lf s):=fun _ _ _=>by simp [vE]
end
def A2 (P:Program) (g:Nat) (cap:List AV) (objs:List Obj):Prop :=
 ∀ (G:aL) (w:World) (vs:List Value),Mem G objs w→cQ G w cap vs →
  CallsD P g vs.toArray .returning w fun e u' w'=>(∃ v,e=.returned v)∧u'=.returning∧∃ G',Mem G' objs w'∧bO G w G' w'
def AN (P:Program) (g:Nat) (cap:List AV) (x:AV) (objs objs':List Obj):Prop :=
 ∀ (G:aL) (w:World) (vs:List Value) (v:Value),Mem G objs w→cQ G w cap vs→aR G w x v →
  CallsD P g vs.toArray (.panicking [{ v,recovered:=false }]) w fun e u' w'=>(∃ v',e=.returned v')∧u'=.panicking [{ v,recovered:=true }]∧∃ G',Mem G' objs' w'∧bO G w G' w'
def ML (P:Program) (n0:Nat) (rs:List ResultVar) (R:gC→List Obj→Prop) (g:Nat) (cap:List AV):AX→AS→Prop
 | .exit _,_=>False
 | _,s=>A2 P g cap s.objs∧fG P n0 rs R .ret s
def Ir (P:Program) (n0 n1:Nat) (rs:List ResultVar) (R:gC→List Obj→Prop) (g:Nat) (cap:List AV) (x:AV) (s:AS):Prop :=
 ∃ xv s' objs',x=.v xv∧cH n1 s s'∧AN P g cap x s'.objs objs'∧fG P n0 rs R .ret ⟨s'.tmps,objs'⟩
def YG (P:Program) (n0:Nat) (rs:List ResultVar) (R:gC→List Obj→Prop) (l:List Oper) (b:Code) (s:AS):Prop :=
 ∃ (l':List Oper) (p:Oper) (f:Operand) (ats:Array TypeId),l=l' ++ [p]∧p.op=.defer ⟨.value f,#[],ats⟩∧p.guard=none ∧
  dB P l l' s (fun s1=>∃ g cap,s1.eval f=.fn g [] cap∧aU P g=true∧awp P s1.objs.length b (s1.put p.dst .any) (ML P n0 rs R g cap) (Ir P n0 s1.objs.length rs R g cap)) (fun _ _=>False)
def F0 (P:Program) (n0:Nat) (rs:List ResultVar) (R:gC→List Obj→Prop):Code→AS→Prop
 | .seq a b,s=>awp P n0 a s (qI n0 (fun s'=>F0 P n0 rs R b s') (fG P n0 rs R)) (fun x s'=>R (.pan x) s'.objs) ∨ (∃ id l,a=.region id l.toArray false∧YG P n0 rs R l b s)
 | _,_=>False
@[reducible] def df0:Df:=⟨[]⟩
theorem SE {G G':aL}{w w':World}{objs:List Obj}{x:AV}{v:Value} (h1:bO G w G' w') (h2:Mem G' objs w') (hc:aR G' w' x v):@dH df0 G w G' ⟨[x],objs⟩ { tmps:=#[v],defers:=[] } w':=by
 letI:Df:=df0
 exact ⟨h1,h2,⟨rfl,fun i y u hy hu=>by
  cases i with
  | zero=>simp at hy hu; subst hy; subst hu; exact hc
  | succ i=>simp at hy⟩,rfl⟩
theorem Uy {n0:Nat}{G G':aL}{w w':World}{objs objs':List Obj}{x x':AV}{v:Value} (hn:G.bl.length=n0) (h1:bO G w G' w') (h2:Mem G' objs w') (hc:aR G' w' x v) (k:cH n0 ⟨[x],objs⟩ ⟨[x'],objs'⟩):∃ G'',Mem G'' objs' w'∧bO G w G'' w'∧aR G'' w' x' v:=by
 letI:Df:=df0
 obtain ⟨G'',hf⟩:=k df0 G w G' _ w' hn (SE h1 h2 hc)
 exact ⟨G'',hf.sat.mem,hf.step,hf.sat.tmps.2 0 x' v rfl rfl⟩
theorem wM {P:Program}{n0:Nat}{fn:Func}{R:gC→List Obj→Prop} [Df] {G G':aL}{w w':World}{s:AS}{a:Act} (hn:G.bl.length=n0) (h:fG P n0 fn.results.toList R .ret s) (hf:dH G w G' s a w') :
  ∃ v,(results fn a.tmps).run P w'=.ok v w'∧∃ ae objs' G',R ae objs'∧Mem G' objs' w'∧bO G w G' w'∧AG G' w' ae (.returned v):=by
 obtain ⟨x,k2,x',objs',k1,k3⟩:=h
 obtain ⟨v,hv,hcv⟩:=FE (P:=P) hf.sat k2
 obtain ⟨G'',m1,s1,c1⟩:=Uy hn hf.step hf.sat.mem hcv k1
 exact ⟨v,hv,.ret x',objs',G'',k3,m1,s1,c1⟩
theorem Sw {G:aL}{w:World}{s:AS}{a:Act}{p:Oper} (dd:Deferred) (hd:a.defers=[]) (hm:Mem G s.objs w) (ht:cQ G w s.tmps a.tmps.toList) :
  @dH ⟨[dd]⟩ G w G (s.put p.dst .any) (({ a with defers:=dd :: a.defers }:Act).put p.dst undef) w:=by
 letI:Df:=⟨[dd]⟩
 have h0:Sat G s { a with defers:=dd :: a.defers } w:=⟨hm,ht,by show dd :: a.defers=[dd]; rw [hd]⟩
 exact ⟨bO.refl G w,h0.put0 p.dst (aR.any undef)⟩
theorem PV {P:Program}{n0:Nat}{fn:Func}{R:gC→List Obj→Prop}{G0:aL}{w0:World} (hn:G0.bl.length=n0) :
  ∀ (c:Code) (s:AS) (G:aL) (a:Act) (w:World),F0 P n0 fn.results.toList R c s→@dH df0 G0 w0 G s a w →
   c.wp P (bodyPostD P fn fun e w'=>∃ ae objs' G',R ae objs'∧Mem G' objs' w'∧bO G0 w0 G' w'∧AG G' w' ae e) a w:=by
 intro c
 induction c with
 | seq x y _ ih=>
  intro s G a w h hf
  rcases h with h | ⟨id,l,rfl,l',p,f,ats,hl,hop,hg,h⟩
  ·letI:Df:=df0
   refine wp_seq (wp_mono (jB hn (fun ops t i hi=>qQ _ ops t i hi) x s _ G a w h hf) ?_)
   rintro e a' w' (⟨ax,s',G',h1,h2,h3⟩ | ⟨x',s',G',v,h1,h2,h3,rfl⟩)
   ·cases ax with
    | normal=>
     cases e <;> first | exact h2.elim | skip
     obtain ⟨s1,G1,hf1,h1⟩:=h1 _ G0 w0 G' a' w' hn h3
     exact ih s1 G1 a' w' h1 hf1
    | exit i=>
     exact h1.elim
    | ret=>
     cases e <;> first | exact h2.elim | skip
     obtain ⟨v,k1,k2⟩:=wM hn h1 h3
     show Leaves P fn a'.tmps _ a'.defers .returning w'
     rw [show a'.defers=[] from h3.sat.defers]
     exact ⟨v,k1,k2⟩
   ·show Leaves P fn a'.tmps _ a'.defers (.panicking _) w'
    rw [show a'.defers=[] from h2.sat.defers]
    exact ⟨.pan x',s'.objs,G',h1,h2.sat.mem,h2.step,v,rfl,h3⟩
  ·letI:Df:=df0
   refine wp_seq (wp_region_list ?_)
   have hsnd:=kE (P:=P) (ops:=l) (G0:=G0) (w0:=w0)
    (K:=fun s1=>∃ g cap,s1.eval f=.fn g [] cap∧aU P g=true∧awp P s1.objs.length y (s1.put p.dst .any) (ML P n0 fn.results.toList R g cap) (Ir P n0 s1.objs.length fn.results.toList R g cap)) (E:=fun _ _=>False) (tl:=[p])
    (Q:=Exit.then (y.wp P (bodyPostD P fn fun e w'=>∃ ae objs' G',R ae objs'∧Mem G' objs' w'∧bO G0 w0 G' w'∧AG G' w' ae e)) (bodyPostD P fn fun e w'=>∃ ae objs' G',R ae objs'∧Mem G' objs' w'∧bO G0 w0 G' w'∧AG G' w' ae e)) ?_ (fun _ _ _ _ _ _ h=>h.elim) l' s G a w h hf
   ·simpa [← hl] using hsnd
   rintro s1 G1 a1 w1 ⟨g,cap,he,hen,hb⟩ hf1
   refine wpList_step fun K' hK'=>?_
   rw [if_pos (by simp [Region.wanted,hg])]
   have hfc:=hf1.sat.eval f
   rw [he] at hfc
   obtain ⟨vf,vc,hfv,hv1,hv2⟩:=I3 hfc
   have hvf:vf=[]:=List.eq_nil_of_length_eq_zero hv1.1
   subst hvf
   unfold Oper.wp
   have hrun:(execOp a1.eval p).run P w1=.ok (.defer { target:=.fn (.func g) vc.toArray,args:=#[] }) w1:=by
    simp [execOp,hop,resolve,hfv,Deferred.ofValue]
   rw [hrun]
   simp only [Oper.upon]
   refine hK' _ _ ?_
   show y.wp P _ _ _
   have hd0:a1.defers=[]:=hf1.sat.defers
   let dd:Deferred:={ target:=.fn (.func g) vc.toArray,args:=#[] }
   have hn1:G1.bl.length=s1.objs.length:=hf1.sat.mem.len
   have hfp:=Sw (p:=p) dd hd0 hf1.sat.mem hf1.sat.tmps
   have hst01:bO G0 w0 G1 w1:=hf1.step
   have hc1:cQ G1 w1 cap vc:=hv2
   have hinv:∀ w,(invoke dd.target dd.args).run P w=.ok (.enter g vc.toArray) w:=by
    intro w
    show (callFunc g (#[] ++ vc.toArray)).run P w=_
    rw [MM hen]
    simp
   clear hf1
   letI:Df:=⟨[dd]⟩
   refine wp_mono (jB hn1 (fun ops t i hi=>qQ _ ops t i hi) y _ _ G1 _ w1 hb hfp) ?_
   rintro e a' w' (⟨ax,s',G',h1,h2,h3⟩ | ⟨x',s',G',v,h1,h2,h3,rfl⟩)
   ·have key:(A2 P g cap s'.objs∧fG P n0 fn.results.toList R .ret s')→Leaves P fn a'.tmps (fun e w'=>∃ ae objs' G',R ae objs'∧Mem G' objs' w'∧bO G0 w0 G' w'∧AG G' w' ae e) a'.defers .returning w':=by
     rintro ⟨c0,hq⟩
     rw [show a'.defers=[dd] from h3.sat.defers]
     refine leaves_cons (by simp) (hinv w') ((c0 G' w' vc h3.sat.mem (hc1.mono h3.step.ext)).mono ?_)
     rintro e u' w'' ⟨⟨v,rfl⟩,rfl,G'',m1,st1⟩
     have hf3:dH G0 w0 G'' s' a' w'':=⟨hst01.trans (h3.step.trans st1),m1,h3.sat.tmps.mono st1.ext,h3.sat.defers⟩
     obtain ⟨v',k1,k2⟩:=wM hn hq hf3
     exact ⟨v',k1,k2⟩
    cases ax with
    | normal=>
     cases e <;> first | exact h2.elim | skip
     exact key h1
    | exit i=>exact h1.elim
    | ret=>
     cases e <;> first | exact h2.elim | skip
     exact key h1
   ·obtain ⟨xv,s2,objs',rfl,hw,c0,hq⟩:=h1
    obtain ⟨G2,hf2⟩:=hw _ G1 w1 G' a' w' hn1 h2
    have hv:=fP h3
    have h3':aR G2 w' (.v xv) v:=by
     cases h3 with
     | v _ ho=>exact .v _ ho
    show Leaves P fn a'.tmps _ a'.defers (.panicking _) w'
    rw [show a'.defers=[dd] from hf2.sat.defers]
    refine leaves_cons (by simp) (hinv w') ((c0 G2 w' vc v hf2.sat.mem (hc1.mono hf2.step.ext) h3').mono ?_)
    rintro e u' w'' ⟨⟨v,rfl⟩,rfl,G'',m1,st1⟩
    have hf3:dH G0 w0 G'' ⟨s2.tmps,objs'⟩ a' w'':=⟨hst01.trans (hf2.step.trans st1),m1,hf2.sat.tmps.mono st1.ext,hf2.sat.defers⟩
    obtain ⟨v',k1,k2⟩:=wM hn hq hf3
    exact ⟨v',k1,k2⟩
 | _=>intro s G a w h hf; exact h.elim
theorem cZ.of_awpD {P:Program}{f:Nat}{fn:Func}{c:Code}{args:List AV}{objs:List Obj}{R:gC→List Obj→Prop} (hf:P.funcs[f]?=some fn) (hb:fn.body=some c)
  (h:F0 P objs.length fn.results.toList R c ⟨args ++ List.replicate (fn.ntmps - args.length) .any,objs⟩):cZ P f args objs R:=by
 letI:Df:=df0
 intro G w vs hm hc
 refine calls_of_wp_defers hf hb ?_
 have hsat:Sat G ⟨args ++ List.replicate (fn.ntmps - args.length) .any,objs⟩ { tmps:=vs.toArray ++ Array.replicate (fn.ntmps - vs.toArray.size) undef,defers:=[] } w:=by
  refine ⟨hm,?_,rfl⟩
  have:=hc.append (ys:=List.replicate (fn.ntmps - args.length) .any) (vs:=List.replicate (fn.ntmps - args.length) undef) ⟨by simp,fun i x v hx hv=>by
   rw [List.getElem?_replicate] at hx
   split at hx
   ·cases hx; exact .any v
   ·cases hx⟩
  simpa [hc.1] using this
 exact PV hm.len c _ G _ w h ⟨bO.refl G w,hsat⟩
theorem JM {P:Program}{p0:Oper}{args:Array Operand}{ats:Array TypeId} (hp:p0.op=.call ⟨.builtin .recover,args,ats⟩) (a:Act) (w:World):(execOp a.eval p0).run P w=.ok .recover w:=by
 simp only [execOp,hp,resolve,Sem.run_bind,Sem.run_pure,Result.andThen_ok,invoke]
 rfl
theorem AN.of_awp {P:Program}{g:Nat}{fn:Func}{c:Code}{id d:Nat}{p0:Oper}{args:Array Operand}{ats:Array TypeId}{cap:List AV}{x:AV}{oin o0:List Obj}
  (hf:P.funcs[g]?=some fn) (hb:fn.body=some (.seq (.region id #[p0] false) c)) (hp:p0.op=.call ⟨.builtin .recover,args,ats⟩) (hd:p0.dst=some d) (hg:p0.guard=none)
  (h:awp P oin.length c ⟨(cap ++ List.replicate (fn.ntmps - cap.length) AV.any).set d x,oin⟩ (fG P oin.length fn.results.toList (fun ae o=>ae=.ret (.tup [])∧o=o0)) (fun _ _=>False)):AN P g cap x oin o0:=by
 letI:Df:=df0
 intro G w vs v hm hc hx
 refine callsD_of_wpS hf hb fun c₀ cs hu=>?_
 refine wpS_seq (wpS_region ?_)
 have hsat:Sat G ⟨(cap ++ List.replicate (fn.ntmps - cap.length) AV.any).set d x,oin⟩ (({ tmps:=vs.toArray ++ Array.replicate (fn.ntmps - vs.toArray.size) undef,defers:=[] }:Act).put (some d) v) w:=by
  refine ⟨hm,?_,rfl⟩
  rw [Act.put_toList]
  refine cQ.set ?_ d hx
  have:=hc.append (ys:=List.replicate (fn.ntmps - cap.length) .any) (vs:=List.replicate (fn.ntmps - cap.length) undef) ⟨by simp,fun i x v hx hv=>by
   rw [List.getElem?_replicate] at hx
   split at hx
   ·cases hx; exact .any v
   ·cases hx⟩
  simpa [hc.1] using this
 have hw:=wp_mono (jB hm.len (fun ops t i hi=>qQ _ ops t i hi) c _ _ G _ w h ⟨bO.refl G w,hsat⟩) (Q':=fun e a' w'=>bodyPostS P fn c₀ cs (fun e u' w'=>(∃ v',e=.returned v')∧u'=.panicking [{ v,recovered:=true }]∧∃ G',Mem G' o0 w'∧bO G w G' w') e a' ({ c₀ with mode:=.panicking [{ v,recovered:=true }] } :: cs) w') ?_
 ·have hw2:=wpS_of_wp (Q:=bodyPostS P fn c₀ cs (fun e u' w'=>(∃ v',e=.returned v')∧u'=.panicking [{ v,recovered:=true }]∧∃ G',Mem G' o0 w'∧bO G w G' w')) (cs:={ c₀ with mode:=.panicking [{ v,recovered:=true }] } :: cs) hw
  show wpOpsS P #[p0] _ [0] _ _ _
  have h0:(#[p0]:Array Oper)[0]?=some p0:=rfl
  simp only [wpOpsS,h0,Region.wanted,hg,if_true,JM hp,recoverD,hu,hd]
  exact hw2
 ·rintro e a' w' (⟨ax,s',G',h1,h2,h3⟩ | ⟨_,_,_,_,h1,_⟩)
  ·have key:fG P oin.length fn.results.toList (fun ae o=>ae=.ret (.tup [])∧o=o0) .ret s'→a'.defers=[]∧∃ u',({ c₀ with mode:=.panicking [{ v,recovered:=true }] } :: cs:List Frame)={ c₀ with mode:=u' } :: cs∧∃ v',(results fn a'.tmps).run P w'=.ok v' w' ∧
     ((∃ v'',Ending.returned v'=.returned v'')∧u'=.panicking [{ v,recovered:=true }]∧∃ G',Mem G' o0 w'∧bO G w G' w'):=by
    intro hq
    obtain ⟨v',k1,ae,objs',G2,⟨_,rfl⟩,k3,k4,_⟩:=wM hm.len hq h3
    exact ⟨h3.sat.defers,_,rfl,v',k1,⟨v',rfl⟩,rfl,G2,k3,k4⟩
   cases ax with
   | normal=>cases e <;> first | exact h2.elim | exact key h1
   | exit i=>exact h1.elim
   | ret=>cases e <;> first | exact h2.elim | exact key h1
  ·exact h1.elim
theorem A2.of_awp {P:Program}{g:Nat}{fn:Func}{c:Code}{id d:Nat}{p0:Oper}{args:Array Operand}{ats:Array TypeId}{k:Nat}
  (hf:P.funcs[g]?=some fn) (hb:fn.body=some (.seq (.region id #[p0] false) c)) (hp:p0.op=.call ⟨.builtin .recover,args,ats⟩) (hd:p0.dst=some d) (hg:p0.guard=none)
  (h:awp P 0 c ⟨((List.replicate k AV.any) ++ List.replicate (fn.ntmps - k) AV.any).set d (.v .nilIface),[]⟩ (fG P 0 fn.results.toList (fun ae o=>ae=.ret (.tup [])∧o=[])) (fun _ _=>False)) (cap:List AV) (objs:List Obj) (hk:cap.length=k):A2 P g cap objs:=by
 letI:Df:=df0
 intro G w vs hm hc
 refine callsD_of_wpS hf hb fun c₀ cs hu=>?_
 refine wpS_seq (wpS_region ?_)
 obtain ⟨G1,hm1,_,hback⟩:=JH (oin:=[]) [] objs List.nodup_nil (fun k hk=>by cases hk) rfl (fun i k x hx=>by simp at hx) rfl hm
 have hsat:Sat G1 ⟨((List.replicate k AV.any) ++ List.replicate (fn.ntmps - k) AV.any).set d (.v .nilIface),[]⟩ (({ tmps:=vs.toArray ++ Array.replicate (fn.ntmps - vs.toArray.size) undef,defers:=[] }:Act).put (some d) .nilIface) w:=by
  refine ⟨hm1,?_,rfl⟩
  rw [Act.put_toList]
  refine cQ.set ?_ d (.v _ rfl)
  have hvl:vs.length=k:=by rw [hc.1,hk]
  refine ⟨by simp [hvl],fun i x v hx hv=>?_⟩
  have:x=.any:=by
   rw [List.replicate_append_replicate,List.getElem?_replicate] at hx
   split at hx
   ·cases hx; rfl
   ·cases hx
  subst this; exact .any v
 have hw:=wp_mono (jB hm1.len (fun ops t i hi=>qQ _ ops t i hi) c _ _ G1 _ w h ⟨bO.refl G1 w,hsat⟩) (Q':=fun e a' w'=>bodyPostS P fn c₀ cs (fun e u' w'=>(∃ v',e=.returned v')∧u'=.returning∧∃ G',Mem G' objs w'∧bO G w G' w') e a' (c₀ :: cs) w') ?_
 ·have hw2:=wpS_of_wp (Q:=bodyPostS P fn c₀ cs (fun e u' w'=>(∃ v',e=.returned v')∧u'=.returning∧∃ G',Mem G' objs w'∧bO G w G' w')) (cs:=c₀ :: cs) hw
  show wpOpsS P #[p0] _ [0] _ _ _
  have h0:(#[p0]:Array Oper)[0]?=some p0:=rfl
  simp only [wpOpsS,h0,Region.wanted,hg,if_true,JM hp,recoverD,hu,hd]
  exact hw2
 ·rintro e a' w' (⟨ax,s',G',h1,h2,h3⟩ | ⟨_,_,_,_,h1,_⟩)
  ·have key:fG P 0 fn.results.toList (fun ae o=>ae=.ret (.tup [])∧o=[]) .ret s'→a'.defers=[]∧∃ u',(c₀ :: cs:List Frame)={ c₀ with mode:=u' } :: cs∧∃ v',(results fn a'.tmps).run P w'=.ok v' w' ∧
     ((∃ v'',Ending.returned v'=.returned v'')∧u'=.returning∧∃ G',Mem G' objs w'∧bO G w G' w'):=by
    intro hq
    obtain ⟨v',k1,ae,objs',G2,⟨_,rfl⟩,k3,k4,_⟩:=wM hm1.len hq h3
    obtain ⟨G3,m3,s3,_⟩:=hback w' [] G2 k3 k4 (Nat.le_refl _)
    refine ⟨h3.sat.defers,.returning,by rw [← hu],v',k1,⟨v',rfl⟩,rfl,G3,?_,s3⟩
    simpa [eR,qN] using m3
   cases ax with
   | normal=>cases e <;> first | exact h2.elim | exact key h1
   | exit i=>exact h1.elim
   | ret=>cases e <;> first | exact h2.elim | exact key h1
  ·exact h1.elim
end Go.Proofs.YthgenmkengbmmaaGreatDoor.AM
namespace Go.Proofs.YthgenmkengbmmaaGreatDoor.AM

open Go Go.Lib
end Go.Proofs.YthgenmkengbmmaaGreatDoor.AM
namespace Go.Proofs.YthgenmkengbmmaaGreatDoor.AM
open Go
section
variable {P:Program}{n:Nat}{o:List (Nat × AV)}{objs:List Obj}{t:TypeId}{y:Operand}
theorem QQ {α:Type}{c:α→List D}{l:List α}{i j:TI}{e:TypeId}{len g:Nat}{q:IntKind}{k:Int}{r:α} (ht:ti P t=some i) (hd:i.desc=.array len e) (hj:ti P e=some j) (hg:Cd g=some (l.map c)) (hl:l.length=len)
  (hy:evo n o y=.v (.int q k)) (h0:0≤k) (hr:l[k.toNat]?=some r) (hz:∀ x,(c x).length=j.size) :
  Val P (.indexAddr t (.global g) y) n o objs (.ep (l.map c) k.toNat 0 .none):=by
 have hlt:=(List.getElem?_eq_some_iff.1 hr).1
 have hx:(st n o objs).eval (.global g)=.ep (l.map c) 0 0 .none:=by
  show A5 g=_
  unfold A5; rw [hg]
 refine ⟨?_⟩; intro p N E hp hN; unfold aop; rw [hp]; dsimp only; rw [hx,aX,hy]; unfold kU; rw [ht]; dsimp only; rw [hd]; dsimp only; rw [hj]; dsimp only
 refine ⟨h0,by omega,.inr ⟨rfl,by rw [List.length_map]; omega,?_,?_⟩⟩
 ·cases l with
  | nil=>simp at hlt
  | cons a l=>exact hz a
 ·rw [Nat.zero_add]; exact hN
end
def strconv_Itoa (n:Int):Option Str:=gdM (-9223372036854775808≤n∧n≤9223372036854775807) <| some (Lib.itoa n)
def strings_IndexByte (s:Str) (c:Int):Option Int:=some (Lib.indexByte (bs s).data.toList c.toNat.toUInt8)
def Ht (s:Str) (k:Nat):Int × Nat:=(((Utf8.decode (bs s) k).1:Int),(Utf8.decode (bs s) k).2)
def Cw {β:Type} (s:Str) (k:Nat) (f:Int→Nat→Option β) (g:Option β):Option β:=if k < s.length then f (Ht s k).1 (k + (Ht s k).2) else g
section
variable {P:Program}{β:Type}{m:Option β}{Φ:β→Prop}{ops rest:List Oper}{K:AS→Prop}{E:AV→AS→Prop}{n d:Nat}{o:List (Nat × AV)}{objs objs':List Obj}{ty t:TypeId}{ps:String}{af:Array Edge}{x:Operand}
theorem Lb {i:TI}{s:Str}{k:Nat} (ht:ti P t=some i) (hd:i.desc=.string) (hx:evo n o x=.v (.string (bs s))) (hk:objs.length=k) (ho:objs ++ [.siter (bs s) 0]=objs'):Eff P (.range t x) n o objs (.ptr k 0) objs':=by
 subst hk; subst ho
 refine ⟨?_⟩; intro p N E hp hN; unfold aop; rw [hp]; dsimp only; rw [aX,hx]; unfold EW; rw [ht]; dsimp only
 exact ⟨hd,hN⟩
theorem TN {s:Str}{k pos:Nat}{f:Int→Nat→Option β}{g:Option β}{ob:Nat→List Obj} (hx:evo n o x=.ptr k 0) (hi:objs[k]?=some (.siter (bs s) pos)) (ho:∀ w,objs.set k (.siter (bs s) w)=ob w)
  (h1:∀ r w,H (f r w) Φ (rg .p P ops rest (st n (oc d (.tup [.v (.bool true),.v (.int .i64 (pos:Int)),.v (.int .i32 r)]) o) (ob w)) K E))
  (h2:H g Φ (rg .p P ops rest (st n (oc d (.tup [.v (.bool false)]) o) objs) K E)) :
  H (Cw s pos f g) Φ (rg .p P ops (⟨some d,.next x true,ty,ps,af,none⟩ :: rest) (st n o objs) K E):=by
 intro y hy hp
 show dB P ops (_ :: rest) (st n o objs) K E
 simp only [dB,dK]
 unfold aop; dsimp only
 have ee:(st n o objs).eval x=.ptr k 0:=by rw [show (st n o objs).eval x=evo n o x from aX n o objs x]; exact hx
 rw [ee]
 refine Or.inr ?_
 unfold EU
 simp only [hi]
 have hsz:(bs s).size=s.length:=rfl
 unfold Cw at hy
 refine ⟨trivial,fun hn=>?_,fun hn=>?_⟩
 ·rw [hsz] at hn
  rw [if_neg hn] at hy
  rw [show AS.put (st n o objs) (some d) (.tup [.v (.bool false)])=st n (oc d (.tup [.v (.bool false)]) o) objs from Br n o objs d _]
  exact h2 y hy hp
 ·rw [hsz] at hn
  rw [if_pos hn] at hy
  rw [ho]
  have:=h1 _ _ y hy hp
  rw [show AS.put (st n o objs) (some d) (.tup [.v (.bool true),.v (.int .i64 (pos:Int)),.v (.int .i32 ((Utf8.decode (bs s) pos).1:Int))])=st n (oc d (.tup [.v (.bool true),.v (.int .i64 (pos:Int)),.v (.int .i32 ((Utf8.decode (bs s) pos).1:Int))]) o) objs from Br n o objs d _]
  exact this
theorem XU {parts:Array (Nat × Operand)}{i j:TI}{e:TypeId}{len k:Nat}{out:List AV}{rows:List (List D)} (ht:ti P t=some i) (hd:i.desc=.slice e) (hj:ti P e=some j) (h0:0 < j.size) (h1:len * j.size≤16777216)
  (h:jZ (fun q=>some (q * j.size,j.size)) (sS j.zero j.size len) (parts.toList.map fun p=>(p.1,evo n o p.2))=some out) (hc:sQ j.size out len=some rows) (hk:objs.length=k) (ho:objs ++ [.tok rows.length j.size e true]=objs'):Eff P (.buildSlice t len parts) n o objs (.sl rows (.own k)) objs':=by
 subst hk; subst ho
 refine ⟨?_⟩; intro p N E hp hN; unfold aop; rw [hp]; dsimp only; refine Or.inr (Or.inr ?_); unfold Hi; rw [ht]; dsimp only; rw [hd]; dsimp only; rw [hj]; dsimp only
 have e:(parts.toList.map fun p=>(p.1,(st n o objs).eval p.2))=parts.toList.map fun p=>(p.1,evo n o p.2):=by simp only [aX]
 rw [e,h]; dsimp only; rw [hc]; exact ⟨h0,h1,hN⟩
def Fd {β:Type} (i:Int) (a b c:Option β):Option β:=if i=0 then a else if i=1 then b else if i=2 then c else none
theorem XD {a b c:Option β}{cs c0 c1 c2:List AV}{i j:TI}{e:TypeId}{q:IntKind}{k:Int}{y:Operand} (ht:ti P t=some i) (hd:i.desc=.array 3 e) (hj:ti P e=some j) (hja:j.isAgg=true) (hx:evo n o x=.agg cs) (hl:3 * j.size≤cs.length)
  (hy:evo n o y=.v (.int q k)) (h0:(cs.drop (0 * j.size)).take j.size=c0) (h1:(cs.drop (1 * j.size)).take j.size=c1) (h2:(cs.drop (2 * j.size)).take j.size=c2)
  (Ha:H a Φ (rg .p P ops rest (st n (oc d (.agg c0) o) objs) K E)) (Hb:H b Φ (rg .p P ops rest (st n (oc d (.agg c1) o) objs) K E)) (Hc:H c Φ (rg .p P ops rest (st n (oc d (.agg c2) o) objs) K E)) :
  H (Fd k a b c) Φ (rg .p P ops (⟨some d,.index t x y,ty,ps,af,none⟩ :: rest) (st n o objs) K E):=by
 intro z hz hp
 have key:∀ (v:Nat) (cv:List AV),v < 3→k=(v:Int)→(cs.drop (v * j.size)).take j.size=cv→rg .p P ops rest (st n (oc d (.agg cv) o) objs) K E→rg .p P ops (⟨some d,.index t x y,ty,ps,af,none⟩ :: rest) (st n o objs) K E:=by
  intro v cv hv hk hcv hr
  show dB P ops (_ :: rest) (st n o objs) K E
  simp only [dB,dK]
  unfold aop; dsimp only
  have ee:(st n o objs).eval=evo n o:=funext fun x=>aX n o objs x
  rw [ee,hx,hy]
  unfold qA
  simp only [ht,hd,hj]
  subst hk
  refine ⟨by omega,by omega,?_⟩
  unfold q0
  rw [Int.toNat_natCast,hcv,if_pos hja]
  refine ⟨?_,?_⟩
  ·have:(v + 1) * j.size≤3 * j.size:=Nat.mul_le_mul_right _ hv
   rw [Nat.add_mul] at this; omega
  ·show rg .p P ops rest (AS.put (st n o objs) (some d) (.agg cv)) K E
   rw [show AS.put (st n o objs) (some d) (.agg cv)=st n (oc d (.agg cv) o) objs from Br n o objs d _]
   exact hr
 unfold Fd at hz
 by_cases k0:k=0
 ·rw [if_pos k0] at hz
  exact key 0 c0 (by omega) (by simpa using k0) h0 (Ha z hz hp)
 ·rw [if_neg k0] at hz
  by_cases k1:k=1
  ·rw [if_pos k1] at hz
   exact key 1 c1 (by omega) (by simpa using k1) h1 (Hb z hz hp)
  ·rw [if_neg k1] at hz
   by_cases k2:k=2
   ·rw [if_pos k2] at hz
    exact key 2 c2 (by omega) (by simpa using k2) h2 (Hc z hz hp)
   ·rw [if_neg k2] at hz; cases hz
theorem Ru {α:Type}{c:α→List D}{l:List α}{i j:TI}{g q:Nat}{e:TypeId} (ht:ti P t=some i) (ha:i.isAgg=true) (hd:i.desc=.array q e) (hj:ti P e=some j) (hg:Cd g=some (l.map c)) (hz:∀ y,(c y).length=j.size) (hs:i.size=l.length * j.size):Val P (.load t (.global g)) n o objs (.agg ((l.map c).flatten.map .ofD)):=by
 have hx:(st n o objs).eval (.global g)=.ep (l.map c) 0 0 .none:=by
  show A5 g=_
  unfold A5; rw [hg]
 refine ⟨?_⟩; intro p N E hp hN; unfold aop; rw [hp]; dsimp only; rw [hx]; unfold kK; rw [ht]; dsimp only
 refine Or.inr ⟨rfl,rfl,ha,⟨j.size,fun y hy=>?_,by rw [List.length_map]; exact hs⟩,hN⟩
 obtain ⟨z,_,rfl⟩:=List.mem_map.1 hy
 exact hz z
theorem OW {α:Type}{c:α→List D}{l:List α}{j:TI}{k:Nat}{r:α}{cs:List AV} (hr:l[k]?=some r) (hz:∀ y,(c y).length=j.size) (h:(c r).map .ofD=cs) {K':AV→Prop} (hK:j.isAgg=true→K' (.agg cs)) (hK1:j.isAgg=false→0 < j.size∧K' (cs.getD 0 .any)):q0 j ((l.map c).flatten.map .ofD) (k * j.size) K':=by
 have hu:∀ y ∈ l.map c,y.length=j.size:=fun y hy=>by
  obtain ⟨z,_,rfl⟩:=List.mem_map.1 hy
  exact hz z
 have hrow:(l.map c)[k]?=some (c r):=by rw [List.getElem?_map,hr]; rfl
 have hp:=DQ hu hrow
 have hl:=A8 hu
 have hk:=(List.getElem?_eq_some_iff.1 hr).1
 have hle:k * j.size + j.size≤l.length * j.size:=by
  have:(k + 1) * j.size≤l.length * j.size:=Nat.mul_le_mul_right _ hk
  rw [Nat.add_mul] at this; omega
 unfold q0
 refine ⟨by rw [List.length_map,hl,List.length_map]; exact hle,?_⟩
 have he:(((l.map c).flatten.map AV.ofD).drop (k * j.size)).take j.size=cs:=by
  rw [← List.map_drop,← List.map_take,hp]; exact h
 split
 ·rename_i hj
  rw [he]; exact hK hj
 ·rename_i hj
  obtain ⟨h0,h1⟩:=hK1 (by simpa using hj)
  refine ⟨h0,?_⟩
  have:((l.map c).flatten.map AV.ofD).getD (k * j.size) .any=cs.getD 0 .any:=by
   rw [← he]
   simp only [List.getD_eq_getElem?_getD]
   rw [List.getElem?_take,if_pos h0,List.getElem?_drop,Nat.add_zero]
  rw [this]; exact h1
theorem Ud {α:Type}{c:α→List D}{l:List α}{i j:TI}{len:Nat}{e:TypeId}{q:IntKind}{k:Int}{r:α}{cs:List AV}{y:Operand} (ht:ti P t=some i) (hd:i.desc=.array len e) (hj:ti P e=some j) (hja:j.isAgg=true) (hx:evo n o x=.agg ((l.map c).flatten.map .ofD)) (hln:l.length=len)
  (hy:evo n o y=.v (.int q k)) (h0:0≤k) (hr:l[k.toNat]?=some r) (hz:∀ y,(c y).length=j.size) (h:(c r).map .ofD=cs):Val P (.index t x y) n o objs (.agg cs):=by
 have hk:=(List.getElem?_eq_some_iff.1 hr).1
 refine ⟨?_⟩
 intro p N E hp hN
 unfold aop; rw [hp]; dsimp only
 have ee:(st n o objs).eval=evo n o:=funext fun x=>aX n o objs x
 rw [ee,hx,hy]
 unfold qA
 simp only [ht,hd,hj]
 exact ⟨h0,by omega,OW hr hz h (fun _=>hN) (fun hf=>by rw [hja] at hf; cases hf)⟩
theorem UG {α:Type}{c:α→List D}{l:List α}{i j:TI}{len:Nat}{e:TypeId}{q:IntKind}{k:Int}{r:α}{d:Value}{y:Operand} (ht:ti P t=some i) (hd:i.desc=.array len e) (hj:ti P e=some j) (hja:j.isAgg=false) (hs:0 < j.size) (hx:evo n o x=.agg ((l.map c).flatten.map .ofD)) (hln:l.length=len)
  (hy:evo n o y=.v (.int q k)) (h0:0≤k) (hr:l[k.toNat]?=some r) (hz:∀ y,(c y).length=j.size) (h:(c r).map AV.ofD=[AV.v d]):Val P (.index t x y) n o objs (.v d):=by
 have hk:=(List.getElem?_eq_some_iff.1 hr).1
 refine ⟨?_⟩
 intro p N E hp hN
 unfold aop; rw [hp]; dsimp only
 have ee:(st n o objs).eval=evo n o:=funext fun x=>aX n o objs x
 rw [ee,hx,hy]
 unfold qA
 simp only [ht,hd,hj]
 exact ⟨h0,by omega,OW hr hz h (fun hf=>by rw [hja] at hf; cases hf) (fun _=>⟨hs,by exact hN⟩)⟩
end
section
variable {P:Program}{n0:Nat}{β:Type}{m:Option β}{Φ:β→Prop}{s:AS}{Q:AX→AS→Prop}{E:AV→AS→Prop}
theorem Uq {c:Code} (h:H m Φ (awp P n0 c s Q E)):H m Φ (awp P n0 (.scope c) s Q E):=h
theorem TP {i:Nat} (h:H m Φ (Q .normal s)):H m Φ (awp P n0 (.label i) s Q E):=h
end
end Go.Proofs.YthgenmkengbmmaaGreatDoor.AM
namespace Go.Proofs.YthgenmkengbmmaaGreatDoor.AM
open Go Go.Proofs
def sN {β:Type} (_h _e:List Nat) (_r:List (Bool × Nat)) (m:Option β):Option β:=m
def gH (P:Program) (ops:List Oper) (hs ea:List Nat) (K:AS→Prop):List (Bool × Nat)→AS→Prop
 | [],s=>K s
 | (false,i) :: r,s=>match ops[i]? with | some o=>rg .c P ops [o] (s.hid (nD hs ea i)) (fun s1=>gH P ops hs ea K r ⟨s1.tmps,s.objs⟩) (fun _ _=>False) | none=>False
 | (true,i) :: r,s=>match ops[i]? with | some o=>∃ v objs',YE P ops.toArray o s v objs'∧gI (nH hs 0 s.objs) objs'∧(gI s.objs objs' ∨ wA ea o=true)∧gH P ops hs ea K r ⟨(s.put o.dst v).tmps,objs'⟩ | none=>False
theorem L7 (s:AS) (hs:List Nat) (d:Option Nat) (y:AV):(⟨((s.hid hs).put d y).tmps,s.objs⟩:AS)=s.put d y:=by cases d <;> rfl
theorem P0 {P:Program}{ops:List Oper}{hs ea:List Nat}{K:AS→Prop}:∀ (r:List (Bool × Nat)) (s:AS),gH P ops hs ea K r s→Cn P ops.toArray hs ea K r s
 | [],_,h=>h
 | (false,i) :: r,s,h=>by
  unfold gH at h
  split at h
  ·rename_i o ho
   obtain ⟨y,h1,h2⟩:=h
   have h2:gH P ops hs ea K r ⟨((s.hid (nD hs ea i)).put o.dst y).tmps,s.objs⟩:=h2
   rw [L7] at h2
   exact ⟨o,by simpa using ho,y,h1,P0 r _ h2⟩
  ·exact h.elim
 | (true,i) :: r,s,h=>by
  unfold gH at h
  split at h
  ·rename_i o ho
   obtain ⟨v,objs',h1,h2,h3,h4⟩:=h
   exact ⟨o,by simpa using ho,v,objs',h1,h2,h3,P0 r _ h4⟩
  ·exact h.elim
def gHr (P:Program) (ops:List Oper) (hs ea:List Nat) (K:AS→Prop) (r:List (Bool × Nat)) (objs:List Obj) (s1:AS):Prop:=gH P ops hs ea K r ⟨s1.tmps,objs⟩
section
variable {P:Program}{n0:Nat}{Q:AX→AS→Prop}{E:AV→AS→Prop}{β:Type}{m:Option β}{Φ:β→Prop}{s:AS}{hs ea:List Nat}
theorem U5 {id:Nat}{l:List Oper}{r:List (Bool × Nat)} (e1:P.follows .mixedOrders=true) (e2:Nat.beq r.length l.length=true) (e3:vJ l.toArray r (Array.replicate l.toArray.size false)=true) (h:H m Φ (gH P l hs ea (Q .normal) r s)) :
  H (sN hs ea r m) Φ (awp P n0 (.region id l.toArray true) s Q E):=by
 intro y hy hp
 exact NQ e1 e2 e3 (P0 r s (h y hy hp))
theorem Xz {K:AS→Prop}{i n:Nat}{o:Oper}{ops:List Oper}{r:List (Bool × Nat)}{ov:List (Nat × AV)}{objs objs1:List Obj} (ho:ops[i]?=some o) (hh:nH (nD hs ea i) 0 objs=objs1)
  (h:H m Φ (rg .c P ops [o] (st n ov objs1) (gHr P ops hs ea K r objs) (fun _ _=>False))):H m Φ (gH P ops hs ea K ((false,i) :: r) (st n ov objs)):=by
 subst hh
 intro y h1 h2; unfold gH; rw [ho]; exact h y h1 h2
theorem XV {K:AS→Prop}{n:Nat}{ops:List Oper}{r:List (Bool × Nat)}{ov:List (Nat × AV)}{objs objs1:List Obj} (h:H m Φ (gH P ops hs ea K r (st n ov objs))):H m Φ (gHr P ops hs ea K r objs (st n ov objs1)):=h
theorem W3 {K:AS→Prop}{i n:Nat}{t:TypeId}{x y:Operand}{ty:TypeId}{pos:String}{af:Array Edge}{ops:List Oper}{r:List (Bool × Nat)}{o o1:List (Nat × AV)}{objs objs':List Obj} (ho:ops[i]?=some ⟨none,.store t x y,ty,pos,af,none⟩)
  (h1:mP (Oper.looksAt ops.toArray ⟨none,.store t x y,ty,pos,af,none⟩) o=o1) (hop:Eff P (.store t x y) n o1 objs .any objs') (hk:gI (nH hs 0 objs) objs') (hq:gI objs objs' ∨ wA ea ⟨none,.store t x y,ty,pos,af,none⟩=true) (h:H m Φ (gH P ops hs ea K r (st n o objs'))) :
  H m Φ (gH P ops hs ea K ((true,i) :: r) (st n o objs)):=by
 subst h1
 intro z hz hq'
 unfold gH
 rw [ho]
 refine ⟨.any,objs',⟨rfl,?_⟩,hk,hq,h z hz hq'⟩
 rw [lK]
 exact hop.run _ _ _ rfl rfl
theorem Sn {α:Type}{m:α→Option β}{K:AS→Prop}{i n d g:Nat}{cal:Operand}{args:Array Operand}{at':Array TypeId}{ty:TypeId}{pos:String}{af:Array Edge}{ops:List Oper}{r:List (Bool × Nat)}{o o1:List (Nat × AV)}{objs objs1 objs2 oin:List Obj}
  {first cap argsC:List AV}{e:Option α}{X:α→AV}{O:α→List Obj}{enc:α→AV}{ob:α→List Obj}{ks:List Nat} (hi:ops[i]?=some ⟨some d,.call ⟨.value cal,args,at'⟩,ty,pos,af,none⟩)
  (ho1:mP (Oper.looksAt ops.toArray ⟨some d,.call ⟨.value cal,args,at'⟩,ty,pos,af,none⟩) o=o1) (hc:evo n o1 cal=.fn g first cap) (hen:aU P g=true) (hf:∀ r,e=some r→dE P g argsC oin (X r) (O r))
  (hp:AV.pubL objs (first ++ args.toList.map (evo n o1) ++ cap)=objs1) (hw:leOb objs1 objs2) (hl:objs2.length=objs1.length)
  (hle:AV.leL (AV.stripL (first ++ args.toList.map (evo n o1) ++ cap)) (AV.renL (rn ks objs2.length) argsC)) (hn:tK ks=true) (hk:xZ objs2.length ks=true)
  (hin:Em (rn ks objs2.length) objs2 ks oin) (ha:AV.idsLtL oin.length argsC=true) (hb:cM oin.length oin=true)
  (hx:∀ r,(X r).ren (rn ks objs2.length)=enc r) (hO:∀ r,vM (rn ks objs2.length) (O r) (nP ks objs2.length (ob r))) (ho:∀ r,eR ks objs2 (nP ks objs2.length (ob r))=ob r) (hkp:∀ r,gI (nH hs 0 objs) (ob r)) (hkq:∀ r,gI objs (ob r) ∨ wA ea ⟨some d,.call ⟨.value cal,args,at'⟩,ty,pos,af,none⟩=true)
  (h:∀ z,H (m z) Φ (gH P ops hs ea K r (st n (oc d (enc z) o) (ob z)))):H (bV ks objs2 enc ob e m) Φ (gH P ops hs ea K ((true,i) :: r) (st n o objs)):=by
 intro y hy hq
 unfold bV at hy
 cases he:e with
 | none=>rw [he] at hy; cases hy
 | some z=>
  rw [he] at hy
  subst ho1
  have hop:=F5 (at':=at') hc hen hf hp hw hl hle hn hk hin ha hb hx hO ho he
  unfold gH
  rw [hi]
  refine ⟨enc z,ob z,⟨rfl,?_⟩,hkp z,hkq z,?_⟩
  ·rw [lK]
   exact hop.run _ _ _ rfl rfl
  ·have:=h z y hy hq
   rw [show (AS.put (st n o objs) (some d) (enc z))=st n (oc d (enc z) o) objs from rfl]
   exact this
theorem KU {K:AS→Prop}{i n d:Nat}{op:Op}{v:AV}{ty:TypeId}{pos:String}{af:Array Edge}{ops:List Oper}{r:List (Bool × Nat)}{o o1:List (Nat × AV)}{objs:List Obj} (hi:ops[i]?=some ⟨some d,op,ty,pos,af,none⟩)
  (ho1:mP (Oper.looksAt ops.toArray ⟨some d,op,ty,pos,af,none⟩) o=o1) (hop:Val P op n o1 objs v) (h:H m Φ (gH P ops hs ea K r (st n (oc d v o) objs))):H m Φ (gH P ops hs ea K ((true,i) :: r) (st n o objs)):=by
 subst ho1
 intro z hz hq
 unfold gH
 rw [hi]
 refine ⟨v,objs,⟨rfl,?_⟩,AE hs _ _,.inl (by have:=AE [] 0 objs; rwa [F3] at this),?_⟩
 ·rw [lK]
  exact hop.run _ _ _ rfl rfl
 ·have:=h z hz hq
  rw [show (AS.put (st n o objs) (some d) v)=st n (oc d v o) objs from rfl]
  exact this
theorem Re {α:Type}{m:α→Option β}{K:AS→Prop}{i n d g:Nat}{cal:Operand}{args:Array Operand}{at':Array TypeId}{ty:TypeId}{pos:String}{af:Array Edge}{ops:List Oper}{r:List (Bool × Nat)}{o o1:List (Nat × AV)}{objs objs1:List Obj}
  {first cap argsC:List AV}{e:Option α}{X:α→AV}{O:α→List Obj}{enc:α→AV}{ob:α→List Obj} (hi:ops[i]?=some ⟨some d,.call ⟨.value cal,args,at'⟩,ty,pos,af,none⟩)
  (ho1:mP (Oper.looksAt ops.toArray ⟨some d,.call ⟨.value cal,args,at'⟩,ty,pos,af,none⟩) o=o1) (hc:evo n o1 cal=.fn g first cap) (hen:aU P g=true) (hf:∀ r,e=some r→Fun P g argsC (X r) (O r)) (ha:AV.idsLtL 0 argsC=true)
  (hle:AV.leL (AV.stripL (first ++ args.toList.map (evo n o1) ++ cap)) argsC)
  (hp:AV.pubL objs (first ++ args.toList.map (evo n o1) ++ cap)=objs1)
  (hx:∀ r,(X r).shift objs1.length=enc r)
  (ho:∀ r,objs1 ++ (O r).map (Obj.shift objs1.length)=ob r) (hkp:∀ r,gI (nH hs 0 objs) (ob r)) (hkq:∀ r,gI objs (ob r) ∨ wA ea ⟨some d,.call ⟨.value cal,args,at'⟩,ty,pos,af,none⟩=true)
  (h:∀ z,H (m z) Φ (gH P ops hs ea K r (st n (oc d (enc z) o) (ob z)))):H (aJ enc ob e m) Φ (gH P ops hs ea K ((true,i) :: r) (st n o objs)):=by
 intro y hy hq
 unfold aJ at hy
 cases he:e with
 | none=>rw [he] at hy; cases hy
 | some z=>
  rw [he] at hy
  subst hp; subst ho1
  have hop:=BW (at':=at') (enc:=enc) (ob:=ob) hc hen hf ha hle hx ho he
  unfold gH
  rw [hi]
  refine ⟨enc z,ob z,⟨rfl,?_⟩,hkp z,hkq z,?_⟩
  ·rw [lK]
   exact hop.run _ _ _ rfl rfl
  ·have:=h z y hy hq
   rw [show (AS.put (st n o objs) (some d) (enc z))=st n (oc d (enc z) o) objs from rfl]
   exact this
theorem XZ {K:AS→Prop}{ops:List Oper} (h:H m Φ (K s)):H m Φ (gH P ops hs ea K [] s):=h
end
end Go.Proofs.YthgenmkengbmmaaGreatDoor.AM
namespace Go.Proofs.YthgenmkengbmmaaGreatDoor.AM
open Go
def S9 {β:Type} (_i _k:Nat) (m:Option β):Option β:=m
def M7 {β:Type} (m:Option β):Option β:=m
def Qc {α β:Type} (_sl:List (Nat × AV)) (_ob:List Obj) (e:Option α) (m:α→Option β):Option β:=e.bind m
section
variable {P:Program}{β:Type}{m:Option β}{Φ:β→Prop}{ops rest:List Oper}{K:AS→Prop}{E:AV→AS→Prop}{n d:Nat}{o:List (Nat × AV)}{objs:List Obj}{ty:TypeId}{pos:String}{af:Array Edge}{op:Op}{v:AV}{x y:Operand}{t t' xt:TypeId}{i:TI}
theorem Ts (hop:Val P op n o objs v) (h:H m Φ (rg .p P ops rest (st n (oc d v o) objs) K E)):H (M7 m) Φ (rg .p P ops (⟨some d,op,ty,pos,af,none⟩ :: rest) (st n o objs) K E):=S_v hop h
theorem UD (a b:Int):AV.ofValue (.agg #[.int .i64 a,.int .i64 b])=.agg [vI a,vI b]:=by
 simp [AV.ofValue,Value.oneCell',vI]
theorem Vs {T:Nat}{z:Flt} (ht:ti P t=some i) (hd:i.desc=.interface #[]) (hx:evo n o x=pE T z) (hy:evo n o y=.v .nilIface):Val P (.binOp .eql t x y t') n o objs (vB false):=by
 refine ⟨?_⟩; intro p N E hp hN; unfold aop; rw [hp]; dsimp only; rw [aX,aX,hx,hy]
 exact ⟨by rw [(b5 ht).1,hd],rfl,hN⟩
theorem Vz (ht:ti P t=some i) (hd:i.desc=.interface #[]) (hx:evo n o x=.v .nilIface) (hy:evo n o y=.v .nilIface):Val P (.binOp .eql t x y t') n o objs (vB true):=by
 refine ⟨?_⟩; intro p N E hp hN; unfold aop; rw [hp]; dsimp only; rw [aX,aX,hx,hy]
 exact ⟨by rw [(b5 ht).1,hd],rfl,hN⟩
theorem W0 {z:Flt} (ht:ti P t=some i) (hd:KR i.desc=false) (hx:evo n o x=pE t z):Val P (.typeAssert x xt t true) n o objs (.tup [.agg [vI z.1,vI z.2],vB true]):=by
 refine ⟨?_⟩; intro p N E hp hN; unfold aop; rw [hp]; dsimp only; rw [aX,hx,ht]
 exact ⟨hd,rfl,rfl,by rw [UD]; exact hN⟩
end
theorem OJ:∀ {xs ys:List Obj},ys.length≤xs.length→(∀ (i:Nat) (x y:Obj),xs[i]?=some x→ys[i]?=some y→E1 x y)→leOb xs ys
 | xs,[],_,_=>yW xs
 | [],_ :: _,h,_=>by simp at h
 | x :: xs,y :: ys,h,k=>⟨k 0 x y rfl rfl,OJ (by simpa using h) (fun i a b ha hb=>k (i + 1) a b (by simpa using ha) (by simpa using hb))⟩
def GU (n:Nat):List Nat→Bool
 | []=>true
 | k :: ks=>Nat.ble n k && GU n ks
theorem JD {n i:Nat} (hi:i < n):∀ {ks:List Nat},GU n ks=true→i ∉ ks
 | [],_=>by simp
 | k :: ks,h=>by
  simp only [GU,Bool.and_eq_true] at h
  have:=Nat.le_of_ble_eq_true h.1
  simp only [List.mem_cons,not_or]
  exact ⟨by omega,JD hi h.2⟩
theorem Sh {ks:List Nat}{l o0 ob:List Obj} (hk:GU ob.length ks=true) (h:leOb l ob):leOb (eR ks l o0) ob:=by
 obtain ⟨h1,h2⟩:=CF h
 refine OJ (Nat.le_trans h1 (GW ks l o0)) fun i x y hx hy=>?_
 have hi:i < ob.length:=(List.getElem?_eq_some_iff.1 hy).1
 have hil:i < l.length:=by omega
 unfold eR at hx
 rw [List.getElem?_append_left (by rw [fE]; exact hil),o7 _ _ _ _ (JD hi hk)] at hx
 exact h2 i x y hx hy
theorem Tq {n1 n:Nat}{o sl:List (Nat × AV)}{ks:List Nat}{l o0 ob:List Obj} (hk:GU ob.length ks=true) (h:leO o sl) (ho:leOb l ob) (hn:n1≤ob.length) (h1:Cx ob.length sl=true) (h2:cM ob.length ob=true) :
  cH n1 (st n o (eR ks l o0)) (st n sl ob):=II h (Sh hk ho) hn h1 h2
def Su {β:Type} (m:Option β):Option β:=m
theorem Tw {P:Program}{n0:Nat}{Q:AX→AS→Prop}{E:AV→AS→Prop}{β:Type}{m:Option β}{Φ:β→Prop}{s:AS}{id:Nat}{l l':List Oper} (e1:P.follows .mixedOrders=true) (e2:Region.lexB .any l.toArray=true) (hl:l=l') (h:H m Φ (rg .c P l' l' s (Q .normal) E)):H (Su m) Φ (awp P n0 (.region id l.toArray true) s Q E):=by
 subst hl; exact Ra e1 e2 h
def Ww (P:Program) (n0 _k:Nat) (rs:List ResultVar) (R:gC→List Obj→Prop) (f:Operand) (b:Code) (s1:AS):Prop :=
 ∃ g cap,s1.eval f=.fn g [] cap∧aU P g=true∧awp P s1.objs.length b (s1.put none .any) (ML P n0 rs R g cap) (Ir P n0 s1.objs.length rs R g cap)
section
variable {P:Program}{n0 n1 n k g:Nat}{rs:List ResultVar}{R:gC→List Obj→Prop}{β α:Type}{m:Option β}{me:α→Option β}{Φ:β→Prop}{s:AS}{o sl:List (Nat × AV)}{objs ob:List Obj}{cap:List AV}{f:Operand}{b:Code}
theorem Vc {a:Code} (h:H m Φ (awp P n0 a s (qI n0 (fun s'=>F0 P n0 rs R b s') (fG P n0 rs R)) (fun x s'=>R (.pan x) s'.objs))):H m Φ (F0 P n0 rs R (.seq a b) s):=fun y h1 h2=>.inl (h y h1 h2)
theorem XL {id i:Nat}{l l':List Oper}{ats:Array TypeId}{ty:TypeId}{pos:String}{af:Array Edge} (h1:l.take i=l') (h2:l.drop i=[⟨none,.defer ⟨.value f,#[],ats⟩,ty,pos,af,none⟩])
  (h:H m Φ (rg .p P l l' s (Ww P n0 k rs R f b) (fun _ _=>False))):H (S9 i k m) Φ (F0 P n0 rs R (.seq (.region id l.toArray false) b) s):=by
 intro y k1 k2
 refine .inr ⟨id,l,rfl,l',⟨none,.defer ⟨.value f,#[],ats⟩,ty,pos,af,none⟩,f,ats,?_,rfl,rfl,h y k1 k2⟩
 rw [← h1,← h2,List.take_append_drop]
theorem WA (he:evo n o f=.fn g [] cap) (hen:aU P g=true) (hk:Nat.beq objs.length k=true) (h:H m Φ (awp P k b (st n o objs) (ML P n0 rs R g cap) (Ir P n0 k rs R g cap))):H m Φ (Ww P n0 k rs R f b (st n o objs)):=by
 have hk:=Nat.eq_of_beq_eq_true hk
 subst hk
 exact fun y k1 k2=>⟨g,cap,by rw [aX]; exact he,hen,h y k1 k2⟩
theorem T6 (hc:A2 P g cap objs) (h:H m Φ (fG P n0 rs R .ret (st n o objs))):H m Φ (ML P n0 rs R g cap .ret (st n o objs)):=fun y k1 k2=>⟨hc,h y k1 k2⟩
theorem Rv {T:Nat}{z:Flt}{e:Option α}{O:α→List Obj} (hw:cH n1 s (st n sl ob)) (hc:∀ r,e=some r→AN P g cap (pE T z) ob (O r)) (h:∀ r,H (me r) Φ (fG P n0 rs R .ret (st n sl (O r)))):H (Qc sl ob e me) Φ (Ir P n0 n1 rs R g cap (pE T z) s):=by
 intro y hy hq
 cases he:e with
 | none=>rw [he] at hy; cases hy
 | some r=>
  rw [he] at hy
  exact ⟨_,_,_,rfl,hw,hc r he,h r y hy hq⟩
end
theorem TS {P:Program}{n0 n1 n g:Nat}{rs:List ResultVar}{R:gC→List Obj→Prop}{β α:Type}{me:α→Option β}{Φ:β→Prop}{o sl:List (Nat × AV)}{objs ob:List Obj}{cap:List AV}{T:Nat}{z:Flt}{e:Option α}{O:α→List Obj}{W:List Nat}
  (hw:cH n1 (st n (Pf o W) objs) (st n sl ob)) (hc:∀ r,e=some r→AN P g cap (pE T z) ob (O r)) (h:∀ r,H (me r) Φ (fG P n0 rs R .ret (st n sl (O r)))):H (Qc sl ob e me) Φ (Ir P n0 n1 rs R g cap (pE T z) ((st n o objs).kill W)):=by
 rw [Ox]; exact Rv hw hc h
theorem dE.of_modelD {P:Program}{β:Type}{f:Nat}{fn:Func}{c:Code}{args:List AV}{oin:List Obj}{m:Option β}{X:β→AV}{O:β→List Obj}{r:β} (hf:P.funcs[f]?=some fn) (hb:fn.body=some c) (hl:args.length≤fn.ntmps) (hm:m=some r) {n0:Nat} (hn0:oin.length=n0)
  (h:H m (fun y=>y=r) (F0 P n0 fn.results.toList (mA X O r) c (st fn.ntmps (bF 0 args) oin))):dE P f args oin (X r) (O r):=by
 subst hn0
 have h2:=h r hm rfl
 refine cZ.mono (R:=mA X O r) (cZ.of_awpD hf hb ?_) (fun _ _ h=>h)
 rw [BA args fn.ntmps hl]
 exact h2
theorem AN.of_model {P:Program}{β:Type}{g:Nat}{fn:Func}{c:Code}{id d:Nat}{p0:Oper}{args:Array Operand}{ats:Array TypeId}{cap:List AV}{T:Nat}{z:Flt}{oin:List Obj}{m:Option β}{O:β→List Obj}{r:β}
  (hf:P.funcs[g]?=some fn) (hb:fn.body=some (.seq (.region id #[p0] false) c)) (hp:p0.op=.call ⟨.builtin .recover,args,ats⟩) (hd:p0.dst=some d) (hg:p0.guard=none) (hl:cap.length≤fn.ntmps) (hm:m=some r) {n0:Nat} (hn0:oin.length=n0)
  (h:H m (fun y=>y=r) (awp P n0 c (st fn.ntmps (oc d (pE T z) (bF 0 cap)) oin) (fG P n0 fn.results.toList (mA (fun _=>.tup []) O r)) (fun _ _=>False))):AN P g cap (pE T z) oin (O r):=by
 subst hn0
 refine AN.of_awp hf hb hp hd hg ?_
 rw [BA cap fn.ntmps hl]
 exact h r hm rfl
theorem VN (k n:Nat) (h:k≤n):List.replicate k AV.any ++ List.replicate (n - k) AV.any=ov n F2:=by
 rw [List.replicate_append_replicate,show k + (n - k)=n by omega]
 rfl
theorem A2.of_model {P:Program}{g:Nat}{fn:Func}{c:Code}{id d k:Nat}{p0:Oper}{args:Array Operand}{ats:Array TypeId}{m:Option Bool}
  (hf:P.funcs[g]?=some fn) (hb:fn.body=some (.seq (.region id #[p0] false) c)) (hp:p0.op=.call ⟨.builtin .recover,args,ats⟩) (hd:p0.dst=some d) (hg:p0.guard=none) (hl:k≤fn.ntmps) (hm:m=some true)
  (h:H m (fun y=>y=true) (awp P 0 c (st fn.ntmps (oc d (.v .nilIface) F2) []) (fG P 0 fn.results.toList (mA (fun _=>.tup []) (fun _=>[]) true) ) (fun _ _=>False))) (cap:List AV) (objs:List Obj) (hk:cap.length=k):A2 P g cap objs:=by
 refine A2.of_awp hf hb hp hd hg ?_ cap objs hk
 rw [VN k fn.ntmps hl]
 exact h true hm rfl
section
variable {P:Program}{n:Nat}{o:List (Nat × AV)}{objs:List Obj}{x y:Operand}{t:TypeId}{κ α:Type} [DecidableEq κ] {kv:κ→Value}{av:α→AV}{es:List (κ × α)}{i ki:TI}{kt et:TypeId}{k:Nat}{key:κ}{zv:Value}{zl:List Value}
 (ht:ti P t=some i) (hd:i.desc=.map kt et) (hk:ti P kt=some ki) (hx:evo n o x=.map k) (ho:objs[k]?=some (.map (mp kv av es)))
include ht hd hk hx ho
theorem QL {a:α} (hl:mlk es key=some a) (hq:uR P kt kv ki.desc) (hz:(P.info? et).bind (·.zero)=some zv) (hy:s8 (evo n o y)=some (kv key)):Val P (.lookup t x y true) n o objs (.tup [av a,.v (.bool true)]) :=
 BJ ht hd hk hx ho hq hy hz (fun b hb=>by rw [hl] at hb; cases hb; rfl) (fun h=>by rw [hl] at h; cases h)
theorem OS {a:α} (hl:mlk es key=some a) (hq:uR P kt kv ki.desc) (hz:(P.info? et).bind (·.zero)=some zv) (hy:s8 (evo n o y)=some (kv key)):Val P (.lookup t x y false) n o objs (av a) :=
 BJ ht hd hk hx ho hq hy hz (fun b hb=>by rw [hl] at hb; cases hb; rfl) (fun h=>by rw [hl] at h; cases h)
theorem QA (hl:mlk es key=none) (hq:uR P kt kv ki.desc) (hz:(P.info? et).bind (·.zero)=some (.agg zl.toArray)) (h1:zl.all (·.oneCell')=true) (hy:s8 (evo n o y)=some (kv key)):Val P (.lookup t x y true) n o objs (.tup [.agg (zl.map .v),.v (.bool false)]):=by
 rw [← vC h1]
 exact BJ ht hd hk hx ho hq hy hz (fun b hb=>by rw [hl] at hb; cases hb) (fun _=>rfl)
theorem OK (hl:mlk es key=none) (hq:uR P kt kv ki.desc) (hz:(P.info? et).bind (·.zero)=some (.agg zl.toArray)) (h1:zl.all (·.oneCell')=true) (hy:s8 (evo n o y)=some (kv key)):Val P (.lookup t x y false) n o objs (.agg (zl.map .v)):=by
 rw [← vC h1]
 exact BJ ht hd hk hx ho hq hy hz (fun b hb=>by rw [hl] at hb; cases hb) (fun _=>rfl)
end
end Go.Proofs.YthgenmkengbmmaaGreatDoor.AM
