/- A part of the proof: X28, X29. -/
import Derived.Test.YtgkmbhllcekagaaGreatDoorX1
import Derived.Lib.ItoaNum
set_option linter.all false
/- The runes of a string. -/
namespace Go.Proofs.YtgkmbhllcekagaaGreatDoor.AM
open Go
def strconv_Itoa (n:Int):Option Str:=gdM (-9223372036854775808≤n∧n≤9223372036854775807) <| some (Lib.itoa n)
def strings_IndexByte (s:Str) (c:Int):Option Int:=some (Lib.indexByte (bs s).data.toList c.toNat.toUInt8)
def EI (s:Str) (k:Nat):Int × Nat:=(((Utf8.decode (bs s) k).1:Int),(Utf8.decode (bs s) k).2)
def Ap {β:Type} (s:Str) (k:Nat) (f:Int→Nat→Option β) (g:Option β):Option β:=if k < s.length then f (EI s k).1 (k + (EI s k).2) else g
section
variable {P:Program}{β:Type}{m:Option β}{Φ:β→Prop}{ops rest:List Oper}{K:AS→Prop}{E:AV→List Obj→Prop}{n d:Nat}{o:List (Nat × AV)}{objs objs':List Obj}{ty t:TypeId}{ps:String}{af:Array Edge}{x:Operand}
theorem H6 {i:TI}{s:Str}{k:Nat} (ht:ti P t=some i) (hd:i.desc=.string) (hx:evo n o x=.v (.string (bs s))) (hk:objs.length=k) (ho:objs ++ [.siter (bs s) 0]=objs'):Eff P (.range t x) n o objs (.ptr k 0) objs':=by
  subst hk; subst ho
  refine ⟨?_⟩; intro p N E hp hN; unfold aop; rw [hp]; dsimp only; rw [aX,hx]; unfold Ct; rw [ht]; dsimp only
  exact ⟨hd,hN⟩
theorem Qx {s:Str}{k pos:Nat}{f:Int→Nat→Option β}{g:Option β}{ob:Nat→List Obj} (hx:evo n o x=.ptr k 0) (hi:objs[k]?=some (.siter (bs s) pos)) (ho:∀ w,objs.set k (.siter (bs s) w)=ob w)
    (h1:∀ r w,H (f r w) Φ (rg .p P ops rest (st n (oc d (.tup [.v (.bool true),.v (.int .i64 (pos:Int)),.v (.int .i32 r)]) o) (ob w)) K E))
    (h2:H g Φ (rg .p P ops rest (st n (oc d (.tup [.v (.bool false)]) o) objs) K E)) :
    H (Ap s pos f g) Φ (rg .p P ops (⟨some d,.next x true,ty,ps,af,none⟩ :: rest) (st n o objs) K E):=by
  intro y hy hp
  show cQ P ops (_ :: rest) (st n o objs) K E
  simp only [cQ,dX]
  unfold aop; dsimp only
  have ee:(st n o objs).eval x=.ptr k 0:=by rw [show (st n o objs).eval x=evo n o x from aX n o objs x]; exact hx
  rw [ee]
  refine Or.inr ?_
  unfold CO
  simp only [hi]
  have hsz:(bs s).size=s.length:=rfl
  unfold Ap at hy
  refine ⟨trivial,fun hn=>?_,fun hn=>?_⟩
  · rw [hsz] at hn
    rw [if_neg hn] at hy
    rw [show AS.put (st n o objs) (some d) (.tup [.v (.bool false)])=st n (oc d (.tup [.v (.bool false)]) o) objs from Eg n o objs d _]
    exact h2 y hy hp
  · rw [hsz] at hn
    rw [if_pos hn] at hy
    rw [ho]
    have:=h1 _ _ y hy hp
    rw [show AS.put (st n o objs) (some d) (.tup [.v (.bool true),.v (.int .i64 (pos:Int)),.v (.int .i32 ((Utf8.decode (bs s) pos).1:Int))])=st n (oc d (.tup [.v (.bool true),.v (.int .i64 (pos:Int)),.v (.int .i32 ((Utf8.decode (bs s) pos).1:Int))]) o) objs from Eg n o objs d _]
    exact this
theorem T1 {parts:Array (Nat × Operand)}{i j:TI}{e:TypeId}{len k:Nat}{out:List AV}{rows:List (List D)} (ht:ti P t=some i) (hd:i.desc=.slice e) (hj:ti P e=some j) (h0:0 < j.size) (h1:len * j.size≤16777216)
    (h:iV (fun q=>some (q * j.size,j.size)) (rT j.zero j.size len) (parts.toList.map fun p=>(p.1,evo n o p.2))=some out) (hc:qS j.size out len=some rows) (hk:objs.length=k) (ho:objs ++ [.tok rows.length j.size e true]=objs'):Eff P (.buildSlice t len parts) n o objs (.sl rows (.own k)) objs':=by
  subst hk; subst ho
  refine ⟨?_⟩; intro p N E hp hN; unfold aop; rw [hp]; dsimp only; refine Or.inr (Or.inr ?_); unfold HV; rw [ht]; dsimp only; rw [hd]; dsimp only; rw [hj]; dsimp only
  have e:(parts.toList.map fun p=>(p.1,(st n o objs).eval p.2))=parts.toList.map fun p=>(p.1,evo n o p.2):=by simp only [aX]
  rw [e,h]; dsimp only; rw [hc]; exact ⟨h0,h1,hN⟩
def Cs {β:Type} (i:Int) (a b c:Option β):Option β:=if i=0 then a else if i=1 then b else if i=2 then c else none
theorem TL {a b c:Option β}{cs c0 c1 c2:List AV}{i j:TI}{e:TypeId}{q:IntKind}{k:Int}{y:Operand} (ht:ti P t=some i) (hd:i.desc=.array 3 e) (hj:ti P e=some j) (hja:j.isAgg=true) (hx:evo n o x=.agg cs) (hl:3 * j.size≤cs.length)
    (hy:evo n o y=.v (.int q k)) (h0:(cs.drop (0 * j.size)).take j.size=c0) (h1:(cs.drop (1 * j.size)).take j.size=c1) (h2:(cs.drop (2 * j.size)).take j.size=c2)
    (Ha:H a Φ (rg .p P ops rest (st n (oc d (.agg c0) o) objs) K E)) (Hb:H b Φ (rg .p P ops rest (st n (oc d (.agg c1) o) objs) K E)) (Hc:H c Φ (rg .p P ops rest (st n (oc d (.agg c2) o) objs) K E)) :
    H (Cs k a b c) Φ (rg .p P ops (⟨some d,.index t x y,ty,ps,af,none⟩ :: rest) (st n o objs) K E):=by
  intro z hz hp
  have key:∀ (v:Nat) (cv:List AV),v < 3→k=(v:Int)→(cs.drop (v * j.size)).take j.size=cv→rg .p P ops rest (st n (oc d (.agg cv) o) objs) K E→rg .p P ops (⟨some d,.index t x y,ty,ps,af,none⟩ :: rest) (st n o objs) K E:=by
    intro v cv hv hk hcv hr
    show cQ P ops (_ :: rest) (st n o objs) K E
    simp only [cQ,dX]
    unfold aop; dsimp only
    have ee:(st n o objs).eval=evo n o:=funext fun x=>aX n o objs x
    rw [ee,hx,hy]
    unfold oJ
    simp only [ht,hd,hj]
    subst hk
    refine ⟨by omega,by omega,?_⟩
    unfold o6
    rw [Int.toNat_natCast,hcv,if_pos hja]
    refine ⟨?_,?_⟩
    · have:(v + 1) * j.size≤3 * j.size:=Nat.mul_le_mul_right _ hv
      rw [Nat.add_mul] at this; omega
    · show rg .p P ops rest (AS.put (st n o objs) (some d) (.agg cv)) K E
      rw [show AS.put (st n o objs) (some d) (.agg cv)=st n (oc d (.agg cv) o) objs from Eg n o objs d _]
      exact hr
  unfold Cs at hz
  by_cases k0:k=0
  · rw [if_pos k0] at hz
    exact key 0 c0 (by omega) (by simpa using k0) h0 (Ha z hz hp)
  · rw [if_neg k0] at hz
    by_cases k1:k=1
    · rw [if_pos k1] at hz
      exact key 1 c1 (by omega) (by simpa using k1) h1 (Hb z hz hp)
    · rw [if_neg k1] at hz
      by_cases k2:k=2
      · rw [if_pos k2] at hz
        exact key 2 c2 (by omega) (by simpa using k2) h2 (Hc z hz hp)
      · rw [if_neg k2] at hz; cases hz
theorem N6 {α:Type}{c:α→List D}{l:List α}{i j:TI}{g q:Nat}{e:TypeId} (ht:ti P t=some i) (ha:i.isAgg=true) (hd:i.desc=.array q e) (hj:ti P e=some j) (hg:Ae g=some (l.map c)) (hz:∀ y,(c y).length=j.size) (hs:i.size=l.length * j.size):Val P (.load t (.global g)) n o objs (.agg ((l.map c).flatten.map .ofD)):=by
  have hx:(st n o objs).eval (.global g)=.ep (l.map c) 0 0 .none:=by
    show xL g=_
    unfold xL; rw [hg]
  refine ⟨?_⟩; intro p N E hp hN; unfold aop; rw [hp]; dsimp only; rw [hx]; unfold jJ; rw [ht]; dsimp only
  refine Or.inr ⟨rfl,rfl,ha,⟨j.size,fun y hy=>?_,by rw [List.length_map]; exact hs⟩,hN⟩
  obtain ⟨z,_,rfl⟩:=List.mem_map.1 hy
  exact hz z
theorem K7 {α:Type}{c:α→List D}{l:List α}{j:TI}{k:Nat}{r:α}{cs:List AV} (hr:l[k]?=some r) (hz:∀ y,(c y).length=j.size) (h:(c r).map .ofD=cs) {K':AV→Prop} (hK:j.isAgg=true→K' (.agg cs)) (hK1:j.isAgg=false→0 < j.size∧K' (cs.getD 0 .any)):o6 j ((l.map c).flatten.map .ofD) (k * j.size) K':=by
  have hu:∀ y ∈ l.map c,y.length=j.size:=fun y hy=>by
    obtain ⟨z,_,rfl⟩:=List.mem_map.1 hy
    exact hz z
  have hrow:(l.map c)[k]?=some (c r):=by rw [List.getElem?_map,hr]; rfl
  have hp:=B2 hu hrow
  have hl:=xU hu
  have hk:=(List.getElem?_eq_some_iff.1 hr).1
  have hle:k * j.size + j.size≤l.length * j.size:=by
    have:(k + 1) * j.size≤l.length * j.size:=Nat.mul_le_mul_right _ hk
    rw [Nat.add_mul] at this; omega
  unfold o6
  refine ⟨by rw [List.length_map,hl,List.length_map]; exact hle,?_⟩
  have he:(((l.map c).flatten.map AV.ofD).drop (k * j.size)).take j.size=cs:=by
    rw [← List.map_drop,← List.map_take,hp]; exact h
  split
  · rename_i hj
    rw [he]; exact hK hj
  · rename_i hj
    obtain ⟨h0,h1⟩:=hK1 (by simpa using hj)
    refine ⟨h0,?_⟩
    have:((l.map c).flatten.map AV.ofD).getD (k * j.size) .any=cs.getD 0 .any:=by
      rw [← he]
      simp only [List.getD_eq_getElem?_getD]
      rw [List.getElem?_take,if_pos h0,List.getElem?_drop,Nat.add_zero]
    rw [this]; exact h1
theorem P9 {α:Type}{c:α→List D}{l:List α}{i j:TI}{len:Nat}{e:TypeId}{q:IntKind}{k:Int}{r:α}{cs:List AV}{y:Operand} (ht:ti P t=some i) (hd:i.desc=.array len e) (hj:ti P e=some j) (hja:j.isAgg=true) (hx:evo n o x=.agg ((l.map c).flatten.map .ofD)) (hln:l.length=len)
    (hy:evo n o y=.v (.int q k)) (h0:0≤k) (hr:l[k.toNat]?=some r) (hz:∀ y,(c y).length=j.size) (h:(c r).map .ofD=cs):Val P (.index t x y) n o objs (.agg cs):=by
  have hk:=(List.getElem?_eq_some_iff.1 hr).1
  refine ⟨?_⟩
  intro p N E hp hN
  unfold aop; rw [hp]; dsimp only
  have ee:(st n o objs).eval=evo n o:=funext fun x=>aX n o objs x
  rw [ee,hx,hy]
  unfold oJ
  simp only [ht,hd,hj]
  exact ⟨h0,by omega,K7 hr hz h (fun _=>hN) (fun hf=>by rw [hja] at hf; cases hf)⟩
theorem PQ {α:Type}{c:α→List D}{l:List α}{i j:TI}{len:Nat}{e:TypeId}{q:IntKind}{k:Int}{r:α}{d:Value}{y:Operand} (ht:ti P t=some i) (hd:i.desc=.array len e) (hj:ti P e=some j) (hja:j.isAgg=false) (hs:0 < j.size) (hx:evo n o x=.agg ((l.map c).flatten.map .ofD)) (hln:l.length=len)
    (hy:evo n o y=.v (.int q k)) (h0:0≤k) (hr:l[k.toNat]?=some r) (hz:∀ y,(c y).length=j.size) (h:(c r).map AV.ofD=[AV.v d]):Val P (.index t x y) n o objs (.v d):=by
  have hk:=(List.getElem?_eq_some_iff.1 hr).1
  refine ⟨?_⟩
  intro p N E hp hN
  unfold aop; rw [hp]; dsimp only
  have ee:(st n o objs).eval=evo n o:=funext fun x=>aX n o objs x
  rw [ee,hx,hy]
  unfold oJ
  simp only [ht,hd,hj]
  exact ⟨h0,by omega,K7 hr hz h (fun hf=>by rw [hja] at hf; cases hf) (fun _=>⟨hs,by exact hN⟩)⟩
end
section
variable {P:Program}{n0:Nat}{β:Type}{m:Option β}{Φ:β→Prop}{s:AS}{Q:AX→AS→Prop}{E:AV→List Obj→Prop}
theorem QC {c:Code} (h:H m Φ (awp P n0 c s Q E)):H m Φ (awp P n0 (.scope c) s Q E):=h
theorem Qq {i:Nat} (h:H m Φ (Q .normal s)):H m Φ (awp P n0 (.label i) s Q E):=h
end
end Go.Proofs.YtgkmbhllcekagaaGreatDoor.AM
/- Drawn regions that store into an object which their reads do not look at. -/
namespace Go.Proofs.YtgkmbhllcekagaaGreatDoor.AM
open Go Go.Proofs
def fF {β:Type} (_h _e:List Nat) (_r:List (Bool × Nat)) (m:Option β):Option β:=m
def gH (P:Program) (ops:List Oper) (hs ea:List Nat) (K:AS→Prop):List (Bool × Nat)→AS→Prop
  | [],s=>K s
  | (false,i) :: r,s=>match ops[i]? with | some o=>rg .c P ops [o] (s.hid (mA hs ea i)) (fun s1=>gH P ops hs ea K r ⟨s1.tmps,s.objs⟩) (fun _ _=>False) | none=>False
  | (true,i) :: r,s=>match ops[i]? with | some o=>∃ v objs',YE P ops.toArray o s v objs'∧fT (l8 hs 0 s.objs) objs'∧(fT s.objs objs' ∨ tD ea o=true)∧gH P ops hs ea K r ⟨(s.put o.dst v).tmps,objs'⟩ | none=>False
theorem Jp (s:AS) (hs:List Nat) (d:Option Nat) (y:AV):(⟨((s.hid hs).put d y).tmps,s.objs⟩:AS)=s.put d y:=by cases d <;> rfl
theorem MH {P:Program}{ops:List Oper}{hs ea:List Nat}{K:AS→Prop}:∀ (r:List (Bool × Nat)) (s:AS),gH P ops hs ea K r s→AK P ops.toArray hs ea K r s
  | [],_,h=>h
  | (false,i) :: r,s,h=>by
    unfold gH at h
    split at h
    · rename_i o ho
      obtain ⟨y,h1,h2⟩:=h
      have h2:gH P ops hs ea K r ⟨((s.hid (mA hs ea i)).put o.dst y).tmps,s.objs⟩:=h2
      rw [Jp] at h2
      exact ⟨o,by simpa using ho,y,h1,MH r _ h2⟩
    · exact h.elim
  | (true,i) :: r,s,h=>by
    unfold gH at h
    split at h
    · rename_i o ho
      obtain ⟨v,objs',h1,h2,h3,h4⟩:=h
      exact ⟨o,by simpa using ho,v,objs',h1,h2,h3,MH r _ h4⟩
    · exact h.elim
def gHr (P:Program) (ops:List Oper) (hs ea:List Nat) (K:AS→Prop) (r:List (Bool × Nat)) (objs:List Obj) (s1:AS):Prop:=gH P ops hs ea K r ⟨s1.tmps,objs⟩
section
variable {P:Program}{n0:Nat}{Q:AX→AS→Prop}{E:AV→List Obj→Prop}{β:Type}{m:Option β}{Φ:β→Prop}{s:AS}{hs ea:List Nat}
theorem Sb {id:Nat}{l:List Oper}{r:List (Bool × Nat)} (e1:P.follows .mixedOrders=true) (e2:Nat.beq r.length l.length=true) (e3:s5 l.toArray r (Array.replicate l.toArray.size false)=true) (h:H m Φ (gH P l hs ea (Q .normal) r s)) :
    H (fF hs ea r m) Φ (awp P n0 (.region id l.toArray true) s Q E):=by
  intro y hy hp
  exact KZ e1 e2 e3 (MH r s (h y hy hp))
theorem TX {K:AS→Prop}{i n:Nat}{o:Oper}{ops:List Oper}{r:List (Bool × Nat)}{ov:List (Nat × AV)}{objs objs1:List Obj} (ho:ops[i]?=some o) (hh:l8 (mA hs ea i) 0 objs=objs1)
    (h:H m Φ (rg .c P ops [o] (st n ov objs1) (gHr P ops hs ea K r objs) (fun _ _=>False))):H m Φ (gH P ops hs ea K ((false,i) :: r) (st n ov objs)):=by
  subst hh
  intro y h1 h2; unfold gH; rw [ho]; exact h y h1 h2
theorem Tg {K:AS→Prop}{n:Nat}{ops:List Oper}{r:List (Bool × Nat)}{ov:List (Nat × AV)}{objs objs1:List Obj} (h:H m Φ (gH P ops hs ea K r (st n ov objs))):H m Φ (gHr P ops hs ea K r objs (st n ov objs1)):=h
theorem SD {K:AS→Prop}{i n:Nat}{t:TypeId}{x y:Operand}{ty:TypeId}{pos:String}{af:Array Edge}{ops:List Oper}{r:List (Bool × Nat)}{o o1:List (Nat × AV)}{objs objs':List Obj} (ho:ops[i]?=some ⟨none,.store t x y,ty,pos,af,none⟩)
    (h1:lJ (Oper.looksAt ops.toArray ⟨none,.store t x y,ty,pos,af,none⟩) o=o1) (hop:Eff P (.store t x y) n o1 objs .any objs') (hk:fT (l8 hs 0 objs) objs') (hq:fT objs objs' ∨ tD ea ⟨none,.store t x y,ty,pos,af,none⟩=true) (h:H m Φ (gH P ops hs ea K r (st n o objs'))) :
    H m Φ (gH P ops hs ea K ((true,i) :: r) (st n o objs)):=by
  subst h1
  intro z hz hq'
  unfold gH
  rw [ho]
  refine ⟨.any,objs',⟨rfl,?_⟩,hk,hq,h z hz hq'⟩
  rw [kL]
  exact hop.run _ _ _ rfl rfl
theorem OL {α:Type}{m:α→Option β}{K:AS→Prop}{i n d g:Nat}{cal:Operand}{args:Array Operand}{at':Array TypeId}{ty:TypeId}{pos:String}{af:Array Edge}{ops:List Oper}{r:List (Bool × Nat)}{o o1:List (Nat × AV)}{objs objs1 objs2 oin:List Obj}
    {first cap argsC:List AV}{e:Option α}{X:α→AV}{O:α→List Obj}{enc:α→AV}{ob:α→List Obj}{ks:List Nat} (hi:ops[i]?=some ⟨some d,.call ⟨.value cal,args,at'⟩,ty,pos,af,none⟩)
    (ho1:lJ (Oper.looksAt ops.toArray ⟨some d,.call ⟨.value cal,args,at'⟩,ty,pos,af,none⟩) o=o1) (hc:evo n o1 cal=.fn g first cap) (hen:aW P g=true) (hf:∀ r,e=some r→d6 P g argsC oin (X r) (O r))
    (hp:AV.pubL objs (first ++ args.toList.map (evo n o1) ++ cap)=objs1) (hw:leOb objs1 objs2) (hl:objs2.length=objs1.length)
    (hle:AV.leL (AV.stripL (first ++ args.toList.map (evo n o1) ++ cap)) (AV.renL (rn ks objs2.length) argsC)) (hn:vQ ks=true) (hk:An objs2.length ks=true)
    (hin:FB (rn ks objs2.length) objs2 ks oin) (ha:AV.idsLtL oin.length argsC=true) (hb:cG oin.length oin=true)
    (hx:∀ r,(X r).ren (rn ks objs2.length)=enc r) (hO:∀ r,zX (rn ks objs2.length) (O r) (sM ks objs2.length (ob r))) (ho:∀ r,jG ks objs2 (sM ks objs2.length (ob r))=ob r) (hkp:∀ r,fT (l8 hs 0 objs) (ob r)) (hkq:∀ r,fT objs (ob r) ∨ tD ea ⟨some d,.call ⟨.value cal,args,at'⟩,ty,pos,af,none⟩=true)
    (h:∀ z,H (m z) Φ (gH P ops hs ea K r (st n (oc d (enc z) o) (ob z)))):H (bX ks objs2 enc ob e m) Φ (gH P ops hs ea K ((true,i) :: r) (st n o objs)):=by
  intro y hy hq
  unfold bX at hy
  cases he:e with
  | none=>rw [he] at hy; cases hy
  | some z=>
    rw [he] at hy
    subst ho1
    have hop:=DK (at':=at') hc hen hf hp hw hl hle hn hk hin ha hb hx hO ho he
    unfold gH
    rw [hi]
    refine ⟨enc z,ob z,⟨rfl,?_⟩,hkp z,hkq z,?_⟩
    · rw [kL]
      exact hop.run _ _ _ rfl rfl
    · have:=h z y hy hq
      rw [show (AS.put (st n o objs) (some d) (enc z))=st n (oc d (enc z) o) objs from rfl]
      exact this
theorem HX {K:AS→Prop}{i n d:Nat}{op:Op}{v:AV}{ty:TypeId}{pos:String}{af:Array Edge}{ops:List Oper}{r:List (Bool × Nat)}{o o1:List (Nat × AV)}{objs:List Obj} (hi:ops[i]?=some ⟨some d,op,ty,pos,af,none⟩)
    (ho1:lJ (Oper.looksAt ops.toArray ⟨some d,op,ty,pos,af,none⟩) o=o1) (hop:Val P op n o1 objs v) (h:H m Φ (gH P ops hs ea K r (st n (oc d v o) objs))):H m Φ (gH P ops hs ea K ((true,i) :: r) (st n o objs)):=by
  subst ho1
  intro z hz hq
  unfold gH
  rw [hi]
  refine ⟨v,objs,⟨rfl,?_⟩,wZ hs _ _,.inl (by have:=wZ [] 0 objs; rwa [Ds] at this),?_⟩
  · rw [kL]
    exact hop.run _ _ _ rfl rfl
  · have:=h z hz hq
    rw [show (AS.put (st n o objs) (some d) v)=st n (oc d v o) objs from rfl]
    exact this
theorem Nv {α:Type}{m:α→Option β}{K:AS→Prop}{i n d g:Nat}{cal:Operand}{args:Array Operand}{at':Array TypeId}{ty:TypeId}{pos:String}{af:Array Edge}{ops:List Oper}{r:List (Bool × Nat)}{o o1:List (Nat × AV)}{objs objs1:List Obj}
    {first cap argsC:List AV}{e:Option α}{X:α→AV}{O:α→List Obj}{enc:α→AV}{ob:α→List Obj} (hi:ops[i]?=some ⟨some d,.call ⟨.value cal,args,at'⟩,ty,pos,af,none⟩)
    (ho1:lJ (Oper.looksAt ops.toArray ⟨some d,.call ⟨.value cal,args,at'⟩,ty,pos,af,none⟩) o=o1) (hc:evo n o1 cal=.fn g first cap) (hen:aW P g=true) (hf:∀ r,e=some r→Fun P g argsC (X r) (O r)) (ha:AV.idsLtL 0 argsC=true)
    (hle:AV.leL (AV.stripL (first ++ args.toList.map (evo n o1) ++ cap)) argsC)
    (hp:AV.pubL objs (first ++ args.toList.map (evo n o1) ++ cap)=objs1)
    (hx:∀ r,(X r).shift objs1.length=enc r)
    (ho:∀ r,objs1 ++ (O r).map (Obj.shift objs1.length)=ob r) (hkp:∀ r,fT (l8 hs 0 objs) (ob r)) (hkq:∀ r,fT objs (ob r) ∨ tD ea ⟨some d,.call ⟨.value cal,args,at'⟩,ty,pos,af,none⟩=true)
    (h:∀ z,H (m z) Φ (gH P ops hs ea K r (st n (oc d (enc z) o) (ob z)))):H (aI enc ob e m) Φ (gH P ops hs ea K ((true,i) :: r) (st n o objs)):=by
  intro y hy hq
  unfold aI at hy
  cases he:e with
  | none=>rw [he] at hy; cases hy
  | some z=>
    rw [he] at hy
    subst hp; subst ho1
    have hop:=zO (at':=at') (enc:=enc) (ob:=ob) hc hen hf ha hle hx ho he
    unfold gH
    rw [hi]
    refine ⟨enc z,ob z,⟨rfl,?_⟩,hkp z,hkq z,?_⟩
    · rw [kL]
      exact hop.run _ _ _ rfl rfl
    · have:=h z y hy hq
      rw [show (AS.put (st n o objs) (some d) (enc z))=st n (oc d (enc z) o) objs from rfl]
      exact this
theorem SB {K:AS→Prop}{ops:List Oper} (h:H m Φ (K s)):H m Φ (gH P ops hs ea K [] s):=h
end
end Go.Proofs.YtgkmbhllcekagaaGreatDoor.AM
