/- A1 -/
import Derived.WalkKit
import Derived.Lib.Strings
import Derived.ChangeKeysEq
set_option linter.all false
namespace Go.Proofs.YthgenmkengbmmaaGreatDoor.AM
open Go
inductive D where
 | v (x:Value)
 | sl (rows:List (List D))
 deriving Inhabited
inductive eX (w:World) (imm:Nat→Nat→Prop):D→Value→Prop
 | v (x:Value) (h:x.oneCell'=true):eX w imm (.v x) x
 | nil (a:Option Addr) (c:Nat) (hc:c≤maxLen):eX w imm (.sl []) (.slice a 0 c)
 | sl (sz:Nat) (rows:List (List D)) (b st c:Nat) (g:Nat→Nat→Value) (hn:rows.length≤c) (hc:c≤maxLen)
   (h1:∀ (i:Nat) (r:List D),rows[i]?=some r→r.length=sz)
   (h2:∀ (i j:Nat) (r:List D) (d:D),rows[i]?=some r→r[j]?=some d→w.cell? ⟨b,st + i * sz + j,none⟩=some (g i j))
   (h3:∀ (i j:Nat) (r:List D) (d:D),rows[i]?=some r→r[j]?=some d→imm b (st + i * sz + j))
   (h4:∀ (i j:Nat) (r:List D) (d:D),rows[i]?=some r→r[j]?=some d→eX w imm d (g i j)) :
   eX w imm (.sl rows) (.slice (some ⟨b,st,none⟩) rows.length c)
def hU (w:World) (i1 imm:Nat→Nat→Prop) (b st sz:Nat) (rows:List (List D)):Prop :=
 (∀ (i:Nat) (r:List D),rows[i]?=some r→r.length=sz) ∧
 ∀ (i j:Nat) (r:List D) (d:D),rows[i]?=some r→r[j]?=some d→∃ x,w.cell? ⟨b,st + i * sz + j,none⟩=some x∧i1 b (st + i * sz + j)∧eX w imm d x
def SlC (w:World) (i1 imm:Nat→Nat→Prop) (rows:List (List D)) (v:Value):Prop :=
 ∃ a c,v=.slice a rows.length c∧rows.length≤c∧c≤maxLen∧(rows=[] ∨ ∃ b st sz,a=some ⟨b,st,none⟩∧hU w i1 imm b st sz rows)
theorem SlC.one {w:World}{i1 imm:Nat→Nat→Prop}{rows:List (List D)}{v:Value} (h:SlC w i1 imm rows v):v.oneCell'=true:=by
 obtain ⟨a,c,rfl,_⟩:=h; rfl
theorem SlC.nil {w:World}{i1 imm:Nat→Nat→Prop} (a:Option Addr) (c:Nat) (hc:c≤maxLen):SlC w i1 imm [] (.slice a 0 c):=⟨a,c,rfl,Nat.zero_le _,hc,.inl rfl⟩
theorem eX.one {w:World}{imm:Nat→Nat→Prop}{d:D}{x:Value} (h:eX w imm d x):x.oneCell'=true:=by
 cases h with
 | v _ h=>exact h
 | nil=>rfl
 | sl=>rfl
theorem eX.sl_iff {w:World}{imm:Nat→Nat→Prop}{rows:List (List D)}{v:Value}:eX w imm (.sl rows) v ↔ SlC w imm imm rows v:=by
 constructor
 ·intro h
  cases h with
  | nil a c hc=>exact ⟨a,c,rfl,Nat.zero_le _,hc,.inl rfl⟩
  | sl _ _ b st c g hn hc h1 h2 h3 h4=>
   exact ⟨_,c,rfl,hn,hc,.inr ⟨b,st,_,rfl,h1,fun i j r d hr hd=>⟨g i j,h2 i j r d hr hd,h3 i j r d hr hd,h4 i j r d hr hd⟩⟩⟩
 ·rintro ⟨a,c,rfl,hn,hc,hx⟩
  rcases hx with rfl | ⟨b,st,sz,rfl,h1,h2⟩
  ·exact .nil a c hc
  ·refine .sl sz rows b st c (fun i j=>(w.cell? ⟨b,st + i * sz + j,none⟩).getD undef) hn hc h1 ?_ ?_ ?_
   ·intro i j r d hr hd
    obtain ⟨x,hx,_,_⟩:=h2 i j r d hr hd
    simp [hx]
   ·intro i j r d hr hd
    obtain ⟨x,_,hi,_⟩:=h2 i j r d hr hd
    exact hi
   ·intro i j r d hr hd
    obtain ⟨x,hx,_,hc⟩:=h2 i j r d hr hd
    simpa [hx] using hc
theorem eX.mono {w w':World}{imm imm':Nat→Nat→Prop} (hw:∀ b o,imm b o→w'.cell? ⟨b,o,none⟩=w.cell? ⟨b,o,none⟩)
  (hi:∀ b o,imm b o→imm' b o) {d:D}{v:Value} (h:eX w imm d v):eX w' imm' d v:=by
 induction h with
 | v x h=>exact .v x h
 | nil a c hc=>exact .nil a c hc
 | sl sz rows b st c g hn hc h1 h2 h3 h4 ih=>
  exact .sl sz rows b st c g hn hc h1 (fun i j r d hr hd=>(hw _ _ (h3 i j r d hr hd)).trans (h2 i j r d hr hd))
   (fun i j r d hr hd=>hi _ _ (h3 i j r d hr hd)) ih
theorem hU.mono {w w':World}{i1 i1' imm imm':Nat→Nat→Prop} (hw1:∀ b o,i1 b o→w'.cell? ⟨b,o,none⟩=w.cell? ⟨b,o,none⟩) (hi1:∀ b o,i1 b o→i1' b o)
  (hw:∀ b o,imm b o→w'.cell? ⟨b,o,none⟩=w.cell? ⟨b,o,none⟩) (hi:∀ b o,imm b o→imm' b o) {b st sz:Nat}{rows:List (List D)} (h:hU w i1 imm b st sz rows):hU w' i1' imm' b st sz rows :=
 ⟨h.1,fun i j r d hr hd=>let ⟨x,hx,hm,hc⟩:=h.2 i j r d hr hd; ⟨x,(hw1 _ _ hm).trans hx,hi1 _ _ hm,hc.mono hw hi⟩⟩
theorem SlC.mono {w w':World}{i1 i1' imm imm':Nat→Nat→Prop} (hw1:∀ b o,i1 b o→w'.cell? ⟨b,o,none⟩=w.cell? ⟨b,o,none⟩) (hi1:∀ b o,i1 b o→i1' b o)
  (hw:∀ b o,imm b o→w'.cell? ⟨b,o,none⟩=w.cell? ⟨b,o,none⟩) (hi:∀ b o,imm b o→imm' b o) {rows:List (List D)}{v:Value} (h:SlC w i1 imm rows v):SlC w' i1' imm' rows v:=by
 obtain ⟨a,c,e,hn,hc,hor⟩:=h
 refine ⟨a,c,e,hn,hc,?_⟩
 rcases hor with h | ⟨b,st,sz,ha,hr⟩
 ·exact .inl h
 ·exact .inr ⟨b,st,sz,ha,hr.mono hw1 hi1 hw hi⟩
inductive Tk where
 | none | exact | own (o:Nat)
 deriving Inhabited
inductive AV where
 | v (x:Value)
 | sl (rows:List (List D)) (t:Tk)
 | agg (cs:List AV)
 | tup (cs:List AV)
 | ptr (o off:Nat)
 | ep (rows:List (List D)) (i off:Nat) (t:Tk)
 | bsl (o off len:Nat)
 | map (o:Nat)
 | fn (f:Nat) (first cap:List AV)
 | cnd (g:Bool) (x:AV)
 | any
 deriving Inhabited
def AV.ofD:D→AV
 | .v x=>.v x
 | .sl rows=>.sl rows .none
def AV.toD:AV→Option D
 | .v (.slice Option.none 0 0)=>some (.sl [])
 | .v x=>some (.v x)
 | .sl rows .none=>some (.sl rows)
 | .sl rows .exact=>some (.sl rows)
 | _=>Option.none
def AV.toDs:List AV→Option (List D)
 | []=>some []
 | a :: l=>match a.toD,AV.toDs l with
  | some d,some ds=>some (d :: ds)
  | _,_=>Option.none
inductive GB where
 | obj (b:Nat) | full (len:Nat) | tok (b len cap sz:Nat) (ex:Bool) | gone (b:Nat)
 deriving Inhabited
def GB.blk:GB→Option Nat
 | .obj b=>some b
 | .full _=>Option.none
 | .tok b _ _ _ _=>some b
 | .gone b=>some b
structure aL where
 bl:List GB
 imm:Nat→Nat→Prop
def aL.im (G:aL):Tk→Nat→Nat→Prop
 | .own o=>fun b off=>G.imm b off ∨ ∃ len cap sz,G.bl[o]?=some (.tok b len cap sz true)∧off < len * sz
 | _=>G.imm
theorem aL.imm_im (G:aL) (t:Tk) {b off:Nat} (h:G.imm b off):G.im t b off:=by
 cases t with
 | none=>exact h
 | exact=>exact h
 | own o=>exact .inl h
def zH (G:aL) (n:Nat) (v:Value):Tk→Prop
 | .none=>True
 | .exact=>∃ a,v=.slice a n n
 | .own o=>(∃ len,G.bl[o]?=some (.full len)∧n≤len∧(n=len→∃ a,v=.slice a n n∧(n=0→a=Option.none))) ∨
   ∃ b len cap sz ex,G.bl[o]?=some (.tok b len cap sz ex)∧n≤len∧(n=len→v=.slice (some ⟨b,0,Option.none⟩) len cap)
inductive aR (G:aL) (w:World):AV→Value→Prop
 | v (x:Value) (h:x.oneCell'=true):aR G w (.v x) x
 | any (x:Value):aR G w .any x
 | cnd (g:Bool) (y:AV) (x:Value) (h:g=true→aR G w y x) (h':g=false→x=undef):aR G w (.cnd g y) x
 | sl (rows:List (List D)) (t:Tk) (x:Value) (h:SlC w (G.im t) G.imm rows x) (ht:zH G rows.length x t):aR G w (.sl rows t) x
 | agg (cs:List AV) (vs:List Value) (hl:vs.length=cs.length) (h1:∀ (i:Nat) (v:Value),vs[i]?=some v→v.oneCell'=true)
   (h:∀ (i:Nat) (c:AV) (v:Value),cs[i]?=some c→vs[i]?=some v→aR G w c v):aR G w (.agg cs) (.agg vs.toArray)
 | tup (cs:List AV) (vs:List Value) (hl:vs.length=cs.length)
   (h:∀ (i:Nat) (c:AV) (v:Value),cs[i]?=some c→vs[i]?=some v→aR G w c v):aR G w (.tup cs) (.tuple vs.toArray)
 | ptr (o off b:Nat) (h:G.bl[o]?=some (.obj b)):aR G w (.ptr o off) (.pointer (some ⟨b,off,Option.none⟩))
 | ep (rows:List (List D)) (i off:Nat) (t:Tk) (b st sz:Nat) (h:hU w (G.im t) G.imm b st sz rows) (c:Nat) (ht:zH G rows.length (.slice (some ⟨b,st,Option.none⟩) rows.length c) t) :
   aR G w (.ep rows i off t) (.pointer (some ⟨b,st + i * sz + off,Option.none⟩))
 | bsl (o off len cap b:Nat) (h:G.bl[o]?=some (.obj b)) (h1:len≤cap) (h2:cap≤maxLen):aR G w (.bsl o off len) (.slice (some ⟨b,off,Option.none⟩) len cap)
 | bsl0 (o off cap:Nat) (a:Option Addr) (h2:cap≤maxLen):aR G w (.bsl o off 0) (.slice a 0 cap)
 | map (o b:Nat) (h:G.bl[o]?=some (.obj b)):aR G w (.map o) (.map (some b))
 | fn (f:Nat) (first cap:List AV) (vf vc:List Value) (hf:vf.length=first.length) (hc:vc.length=cap.length)
   (h1:∀ (i:Nat) (c:AV) (v:Value),first[i]?=some c→vf[i]?=some v→aR G w c v)
   (h2:∀ (i:Nat) (c:AV) (v:Value),cap[i]?=some c→vc[i]?=some v→aR G w c v):aR G w (.fn f first cap) (.func (.func f) vf.toArray vc.toArray)
structure Ext (G:aL) (w:World) (G':aL) (w':World):Prop where
 cells:∀ t b o,G.im t b o→w'.cell? ⟨b,o,none⟩=w.cell? ⟨b,o,none⟩
 im:∀ t b o,G.im t b o→G'.im t b o
 obj:∀ (o:Nat) b,G.bl[o]?=some (GB.obj b)→G'.bl[o]?=some (GB.obj b)
 full:∀ (o:Nat) len,G.bl[o]?=some (GB.full len)→G'.bl[o]?=some (GB.full len) ∨ ∃ b len' cap sz ex,G'.bl[o]?=some (GB.tok b len' cap sz ex)∧len < len'
 tok:∀ (o:Nat) b len cap sz ex,G.bl[o]?=some (GB.tok b len cap sz ex)→∃ b' len' cap' sz' ex',G'.bl[o]?=some (GB.tok b' len' cap' sz' ex')∧(len < len' ∨ (b'=b∧len'=len∧cap'=cap))
theorem Ext.imm {G G':aL}{w w':World} (h:Ext G w G' w') (b o:Nat) (hi:G.imm b o):G'.imm b o:=h.im .none b o hi
theorem Ext.cell {G G':aL}{w w':World} (h:Ext G w G' w') (b o:Nat) (hi:G.imm b o):w'.cell? ⟨b,o,none⟩=w.cell? ⟨b,o,none⟩:=h.cells .none b o hi
theorem Ext.refl (G:aL) (w:World):Ext G w G w :=
 ⟨fun _ _ _ _=>rfl,fun _ _ _ h=>h,fun _ _ h=>h,fun _ _ h=>.inl h,fun _ b len cap sz ex h=>⟨b,len,cap,sz,ex,h,.inr ⟨rfl,rfl,rfl⟩⟩⟩
theorem Ext.trans {G1 G2 G3:aL}{w1 w2 w3:World} (h:Ext G1 w1 G2 w2) (k:Ext G2 w2 G3 w3):Ext G1 w1 G3 w3:=by
 refine ⟨fun t b o hi=>(k.cells t b o (h.im t b o hi)).trans (h.cells t b o hi),fun t b o hi=>k.im t b o (h.im t b o hi),fun o b hb=>k.obj o b (h.obj o b hb),?_,?_⟩
 ·intro o l ho
  rcases h.full o l ho with h2 | ⟨b,len,cap,sz,ex,h2,hp⟩
  ·exact k.full o l h2
  ·obtain ⟨b',len',cap',sz',ex',h3,hx⟩:=k.tok o b len cap sz ex h2
   exact .inr ⟨b',len',cap',sz',ex',h3,by omega⟩
 ·intro o b len cap sz ex ho
  obtain ⟨b2,len2,cap2,sz2,ex2,h2,hx⟩:=h.tok o b len cap sz ex ho
  obtain ⟨b3,len3,cap3,sz3,ex3,h3,hy⟩:=k.tok o b2 len2 cap2 sz2 ex2 h2
  refine ⟨b3,len3,cap3,sz3,ex3,h3,?_⟩
  rcases hx with hx | ⟨rfl,rfl,rfl⟩
  ·rcases hy with hy | ⟨_,rfl,_⟩
   ·exact .inl (by omega)
   ·exact .inl hx
  ·exact hy
def D7:List (Nat × Nat × List (List D)):=[(0,2,[[.v (.string ⟨⟨[100]⟩⟩),.v (.int .i64 86400000)],[.v (.string ⟨⟨[104]⟩⟩),.v (.int .i64 3600000)],[.v (.string ⟨⟨[109]⟩⟩),.v (.int .i64 60000)],[.v (.string ⟨⟨[115]⟩⟩),.v (.int .i64 1000)],[.v (.string ⟨⟨[109,115]⟩⟩),.v (.int .i64 1)]]),
 (1,1,[[.v (.string ⟨⟨[]⟩⟩)],[.v (.string ⟨⟨[62]⟩⟩)],[.v (.string ⟨⟨[62,61]⟩⟩)],[.v (.string ⟨⟨[60]⟩⟩)],[.v (.string ⟨⟨[60,61]⟩⟩)],[.v (.string ⟨⟨[61,61]⟩⟩)],[.v (.string ⟨⟨[33,61]⟩⟩)]]),
 (2,1,[[.v (.int .u64 1)],[.v (.int .u64 10)],[.v (.int .u64 100)],[.v (.int .u64 1000)],[.v (.int .u64 10000)],[.v (.int .u64 100000)],[.v (.int .u64 1000000)],[.v (.int .u64 10000000)],[.v (.int .u64 100000000)],[.v (.int .u64 1000000000)],[.v (.int .u64 10000000000)],[.v (.int .u64 100000000000)],[.v (.int .u64 1000000000000)],[.v (.int .u64 10000000000000)],[.v (.int .u64 100000000000000)],[.v (.int .u64 1000000000000000)],[.v (.int .u64 10000000000000000)],[.v (.int .u64 100000000000000000)],[.v (.int .u64 1000000000000000000)],[.v (.int .u64 10000000000000000000)]])]
def uU (imm:Nat→Nat→Prop) (w:World):Prop:=∀ e ∈ D7,hU w imm imm e.1 0 e.2.1 e.2.2∧imm e.1 (e.2.2.length * e.2.1)∧w.cell? ⟨e.1,e.2.2.length * e.2.1,none⟩=none
theorem uU.mono {w w':World}{imm imm':Nat→Nat→Prop} (h:uU imm w) (hw:∀ b o,imm b o→w'.cell? ⟨b,o,none⟩=w.cell? ⟨b,o,none⟩) (hi:∀ b o,imm b o→imm' b o):uU imm' w' :=
 fun e he=>⟨(h e he).1.mono hw hi hw hi,hi _ _ (h e he).2.1,(hw _ _ (h e he).2.1).trans (h e he).2.2⟩
def Cd (g:Nat):Option (List (List D)):=(D7.find? fun e=>e.1 == g).map (·.2.2)
theorem uU.row {imm:Nat→Nat→Prop}{w:World} (h:uU imm w) {g:Nat}{rows:List (List D)} (hg:Cd g=some rows):∃ sz,hU w imm imm g 0 sz rows:=by
 unfold Cd at hg
 cases hf:D7.find? (fun e=>e.1 == g) with
 | none=>rw [hf] at hg; cases hg
 | some e=>
  rw [hf] at hg; cases hg
  have h1:=List.find?_some hf
  have h2:=List.mem_of_find?_eq_some hf
  have:e.1=g:=by simpa using h1
  subst this
  exact ⟨_,(h e h2).1⟩
theorem zH.mono {G G':aL}{w w':World} (h:Ext G w G' w') {n:Nat}{v:Value}{t:Tk} (ht:zH G n v t):zH G' n v t:=by
 cases t with
 | none=>trivial
 | exact=>exact ht
 | own o=>
  rcases ht with ⟨l,h1,h2,h3⟩ | ⟨b,len,cap,sz,ex,h1,h2,h3⟩
  ·rcases h.full o l h1 with h4 | ⟨b,len,cap,sz,ex,h4,h5⟩
   ·exact .inl ⟨l,h4,h2,h3⟩
   ·exact .inr ⟨b,len,cap,sz,ex,h4,by omega,fun he=>by omega⟩
  ·obtain ⟨b',len',cap',sz',ex',h4,h5⟩:=h.tok o b len cap sz ex h1
   rcases h5 with h5 | ⟨rfl,rfl,rfl⟩
   ·exact .inr ⟨b',len',cap',sz',ex',h4,by omega,fun he=>by omega⟩
   ·exact .inr ⟨b',len',cap',sz',ex',h4,h2,h3⟩
theorem aR.mono {G G':aL}{w w':World} (h:Ext G w G' w') {x:AV}{v:Value} (hc:aR G w x v):aR G' w' x v:=by
 induction hc with
 | v x hx=>exact .v x hx
 | any x=>exact .any x
 | cnd g y x _ h' ih=>exact .cnd g y x ih h'
 | sl rows t x hd ht=>exact .sl rows t x (hd.mono (h.cells t) (h.im t) h.cell h.imm) (ht.mono h)
 | agg cs vs hl h1 _ ih=>exact .agg cs vs hl h1 ih
 | tup cs vs hl _ ih=>exact .tup cs vs hl ih
 | ptr o off b hb=>exact .ptr o off b (h.obj o b hb)
 | ep rows i off t b st sz hr c ht=>exact .ep rows i off t b st sz (hr.mono (h.cells t) (h.im t) h.cell h.imm) c (ht.mono h)
 | bsl o off len cap b hb h1 h2=>exact .bsl o off len cap b (h.obj o b hb) h1 h2
 | bsl0 o off cap a h2=>exact .bsl0 o off cap a h2
 | map o b hb=>exact .map o b (h.obj o b hb)
 | fn f first cap vf vc hf hc _ _ ih1 ih2=>exact .fn f first cap vf vc hf hc ih1 ih2
inductive Obj where
 | box (cells:List AV)
 | tok (len sz e:Nat) (ex:Bool)
 | map (es:List (Value × AV))
 | mapB (bs:List Nat) (clock:Nat) (es:List (Value × AV))
 | iter (m since:Nat) (seen:List Nat)
 | siter (s:ByteArray) (pos:Nat)
 | bld (e:Nat) (buf:AV)
 | lin (v:Value) (sz e:Nat) (rows:List (List D))
 | dead
 deriving Inhabited
structure AS where
 tmps:List AV
 objs:List Obj
def iU (G:aL) (w:World) (g:GB):Obj→Prop
 | .box cells=>(cells=[]∧∃ l,g=.full l) ∨ ∃ b c e,g=.obj b∧w.heap[b]?=some (.cells c e (0,0))∧cells.length≤c.size ∧
   (∀ (j:Nat) (x:AV) (v:Value),cells[j]?=some x→c[j]?=some v→v.oneCell'=true∧aR G w x v)∧∀ off,¬ G.imm b off
 | .tok len sz e ex=>(g=.full len∧(ex=true→len=0)) ∨ ∃ b cap cur,g=.tok b len cap sz ex∧w.heap[b]?=some (.cells cur e (0,0))∧cur.size=cap * sz∧len≤cap∧cap≤maxLen ∧
   (ex=true→∀ off,¬ G.imm b off)∧(ex=false→∀ off,G.imm b off→off < len * sz)
 | .map es=>∃ b ents clock,g=.obj b∧w.heap[b]?=some (.map ents clock)∧ents.size=es.length ∧
   (∀ (i:Nat) (k:Value) (x:AV) (e:MapEntry),es[i]?=some (k,x)→ents[i]?=some e→e.key=k∧aR G w x e.val∧e.born < clock) ∧
   (ents.toList.map (·.born)).Nodup∧∀ off,¬ G.imm b off
 | .mapB bs clock es=>∃ b ents,g=.obj b∧w.heap[b]?=some (.map ents clock)∧ents.size=es.length ∧
   (∀ (i:Nat) (k:Value) (x:AV) (e:MapEntry),es[i]?=some (k,x)→ents[i]?=some e→e.key=k∧aR G w x e.val∧e.born < clock) ∧
   (ents.toList.map (·.born)).Nodup∧ents.toList.map (·.born)=bs∧∀ off,¬ G.imm b off
 | .iter m since seen=>∃ b mb,g=.obj b∧G.bl[m]?=some (.obj mb)∧w.heap[b]?=some (.mapIter (some mb) since seen.toArray since)∧∀ off,¬ G.imm b off
 | .siter s pos=>∃ b,g=.obj b∧w.heap[b]?=some (.stringIter s pos)∧∀ off,¬ G.imm b off
 | .bld e buf=>∃ b c0 c1,g=.obj b∧w.heap[b]?=some (.cells #[c0,c1] e (0,0))∧(c0=.pointer none ∨ c0=.pointer (some ⟨b,0,Option.none⟩))∧c1.oneCell'=true∧aR G w buf c1∧∀ off,¬ G.imm b off
 | .lin v sz e rows=>(rows=[]∧v=.slice none 0 0∧g=.full 0) ∨ ∃ b cap cur,g=.gone b∧v=.slice (some ⟨b,0,Option.none⟩) rows.length cap∧w.heap[b]?=some (.cells cur e (0,0))∧cur.size=cap * sz ∧
   rows.length≤cap∧cap≤maxLen∧(∀ off,¬ G.imm b off)∧hU w (fun b' _=>b'=b) G.imm b 0 sz rows
 | .dead=>∀ b l c sz,g ≠ .tok b l c sz true
structure Mem (G:aL) (objs:List Obj) (w:World):Prop where
 len:G.bl.length=objs.length
 ok:∀ (o:Nat) (x:Obj) (g:GB),objs[o]?=some x→G.bl[o]?=some g→iU G w g x
 inj:∀ (o o':Nat) (g g':GB) (b:Nat),G.bl[o]?=some g→G.bl[o']?=some g'→g.blk=some b→g'.blk=some b→o=o'
 lt:∀ (o:Nat) (g:GB) (b:Nat),G.bl[o]?=some g→g.blk=some b→b < w.heap.size
 immLt:(∀ b off,G.imm b off→b < w.heap.size)∧uU G.imm w
theorem Mem.gl {G G':aL}{w w':World}{objs:List Obj} (hm:Mem G objs w) (h:Ext G w G' w'):uU G'.imm w':=hm.immLt.2.mono h.cell h.imm
structure bO (G:aL) (w:World) (G':aL) (w':World):Prop where
 ext:Ext G w G' w'
 heap:∀ k,k < w.heap.size→(∀ (o:Nat) (g:GB),G.bl[o]?=some g→g.blk ≠ some k)→w'.heap[k]?=w.heap[k]?
 size:w.heap.size≤w'.heap.size
 os:w'.os=w.os
 tape:w'.tape=w.tape
 output:w'.output=w.output∧w.drawn≤w'.drawn
 imm2:∀ b off,G'.imm b off→G.imm b off ∨ w.heap.size≤b ∨ ∃ (o:Nat) (g:GB),G.bl[o]?=some g∧g.blk=some b
 blk:∀ (o:Nat) (g:GB) (b:Nat),G'.bl[o]?=some g→g.blk=some b→w.heap.size≤b ∨ ∃ (o:Nat) (g:GB),G.bl[o]?=some g∧g.blk=some b
theorem bO.refl (G:aL) (w:World):bO G w G w :=
 ⟨.refl G w,fun _ _ _=>rfl,Nat.le_refl _,rfl,rfl,⟨rfl,Nat.le_refl _⟩,fun _ _ h=>.inl h,fun o g _ h1 h2=>.inr ⟨o,g,h1,h2⟩⟩
theorem bO.trans {G1 G2 G3:aL}{w1 w2 w3:World} (h:bO G1 w1 G2 w2) (k:bO G2 w2 G3 w3):bO G1 w1 G3 w3:=by
 refine ⟨h.ext.trans k.ext,?_,Nat.le_trans h.size k.size,k.os.trans h.os,k.tape.trans h.tape,⟨k.output.1.trans h.output.1,Nat.le_trans h.output.2 k.output.2⟩,?_,?_⟩
 ·intro j hj hn
  rw [k.heap j (Nat.lt_of_lt_of_le hj h.size),h.heap j hj hn]
  intro o g hg hb
  rcases h.blk o g j hg hb with h1 | ⟨o',g',h1,h2⟩
  ·omega
  ·exact hn o' g' h1 h2
 ·intro b off hi
  rcases k.imm2 b off hi with h1 | h1 | ⟨o,g,h1,h2⟩
  ·exact h.imm2 b off h1
  ·exact .inr (.inl (Nat.le_trans h.size h1))
  ·rcases h.blk o g b h1 h2 with h3 | h3
   ·exact .inr (.inl h3)
   ·exact .inr (.inr h3)
 ·intro o g b hg hb
  rcases k.blk o g b hg hb with h1 | ⟨o',g',h1,h2⟩
  ·exact .inl (Nat.le_trans h.size h1)
  ·exact h.blk o' g' b h1 h2
def cQ (G:aL) (w:World) (xs:List AV) (vs:List Value):Prop :=
 vs.length=xs.length∧∀ (i:Nat) (x:AV) (v:Value),xs[i]?=some x→vs[i]?=some v→aR G w x v
theorem cQ.mono {G G':aL}{w w':World} (h:Ext G w G' w') {xs:List AV}{vs:List Value} (hc:cQ G w xs vs):cQ G' w' xs vs :=
 ⟨hc.1,fun i x v hx hv=>(hc.2 i x v hx hv).mono h⟩
class Df where
 l:List Deferred
structure Sat [Df] (G:aL) (s:AS) (a:Act) (w:World):Prop where
 mem:Mem G s.objs w
 tmps:cQ G w s.tmps a.tmps.toList
 defers:a.defers=Df.l
def AV.ofValue:Value→AV
 | .agg cs=>if cs.all (·.oneCell') then .agg (cs.toList.map .v) else .any
 | .tuple cs=>if cs.all (·.oneCell') then .tup (cs.toList.map .v) else .any
 | x=>.v x
theorem aR.ofValue {G:aL}{w:World} (x:Value):aR G w (AV.ofValue x) x:=by
 have key:∀ cs:Array Value,cs.all (·.oneCell')=true→∀ (i:Nat) (c:AV) (v:Value),(cs.toList.map AV.v)[i]?=some c→cs.toList[i]?=some v→aR G w c v:=by
  intro cs hall i c v hc hv
  simp only [List.getElem?_map,hv,Option.map_some,Option.some.injEq] at hc
  subst hc
  refine .v v ?_
  rw [Array.all_eq_true_iff_forall_mem] at hall
  exact hall v (by have:=List.mem_of_getElem? hv; simpa using this)
 cases x with
 | agg cs=>
  simp only [AV.ofValue]
  split
  ·rename_i hall
   have:=aR.agg (G:=G) (w:=w) (cs.toList.map .v) cs.toList (by simp) ?_ (key cs hall)
   ·simpa using this
   ·intro i v hv
    rw [Array.all_eq_true_iff_forall_mem] at hall
    exact hall v (by have:=List.mem_of_getElem? hv; simpa using this)
  ·exact .any _
 | tuple cs=>
  simp only [AV.ofValue]
  split
  ·rename_i hall
   have:=aR.tup (G:=G) (w:=w) (cs.toList.map .v) cs.toList (by simp) (key cs hall)
   simpa using this
  ·exact .any _
 | _=>exact .v _ rfl
def AV.un:AV→AV
 | .cnd g x=>if g=true then x else .any
 | x=>x
theorem aR.un {G:aL}{w:World}{x:AV}{v:Value} (h:aR G w x v):aR G w x.un v:=by
 cases h with
 | cnd g y _ h _=>
  simp only [AV.un]
  split
  ·rename_i hg; exact h hg
  ·exact .any v
 | v _ hx=>exact .v _ hx
 | any=>exact .any _
 | sl rows t _ hd ht=>exact .sl rows t _ hd ht
 | agg cs vs hl h1 h2=>exact .agg cs vs hl h1 h2
 | tup cs vs hl h=>exact .tup cs vs hl h
 | ptr o off b h=>exact .ptr o off b h
 | ep rows i off t b st sz h c ht=>exact .ep rows i off t b st sz h c ht
 | bsl o off len cap b h h1 h2=>exact .bsl o off len cap b h h1 h2
 | bsl0 o off cap a h=>exact .bsl0 o off cap a h
 | map o b h=>exact .map o b h
 | fn f a b vf vc h1 h2 h3 h4=>exact .fn f a b vf vc h1 h2 h3 h4
def A5 (g:Nat):AV :=
 match Cd g with
 | some rows=>.ep rows 0 0 .none
 | none=>.any
theorem Sat.gl [Df] {G:aL}{s:AS}{a:Act}{w:World} (h:Sat G s a w) (g:Nat):aR G w (A5 g) (.pointer (some ⟨g,0,none⟩)):=by
 unfold A5
 split
 ·rename_i rows hr
  obtain ⟨sz,hs⟩:=h.mem.immLt.2.row hr
  have:=aR.ep (G:=G) (w:=w) rows 0 0 .none g 0 sz hs 0 trivial
  simpa using this
 ·exact .any _
def AS.eval (s:AS):Operand→AV
 | .tmp t=>(s.tmps.getD t .any).un
 | .const v=>AV.ofValue v
 | .global g=>A5 g
 | .func f=>.fn f [] []
def AS.raw (s:AS):Operand→AV
 | .tmp t=>s.tmps.getD t .any
 | .const v=>AV.ofValue v
 | .global g=>A5 g
 | .func f=>.fn f [] []
theorem Sat.raw [Df] {G:aL}{s:AS}{a:Act}{w:World} (h:Sat G s a w) (x:Operand):aR G w (s.raw x) (a.eval x):=by
 cases x with
 | tmp t=>
  simp only [AS.raw,Act.eval]
  rcases Nat.lt_or_ge t s.tmps.length with ht | ht
  ·have h1:s.tmps[t]?=some s.tmps[t]:=List.getElem?_eq_getElem ht
   have ht':t < a.tmps.size:=by have h0:=h.tmps.1; rw [Array.length_toList] at h0; rw [h0]; exact ht
   have h2:a.tmps.toList[t]?=some a.tmps[t]:=by simp [ht']
   have:=h.tmps.2 t _ _ h1 h2
   simpa [List.getD_eq_getElem?_getD,h1,Array.getD,ht'] using this
  ·simp only [List.getD_eq_getElem?_getD,List.getElem?_eq_none ht,Option.getD_none]
   exact .any _
 | const v=>exact aR.ofValue v
 | global g=>exact h.gl g
 | func f=>exact aR.fn (G:=G) (w:=w) f [] [] [] [] rfl rfl (fun i c v h=>by simp at h) (fun i c v h=>by simp at h)
theorem Sat.eval [Df] {G:aL}{s:AS}{a:Act}{w:World} (h:Sat G s a w) (x:Operand):aR G w (s.eval x) (a.eval x):=by
 cases x with
 | tmp t=>exact (h.raw (.tmp t)).un
 | const v=>exact h.raw (.const v)
 | global g=>exact h.gl g
 | func f=>exact h.raw (.func f)
def AS.put (s:AS) (dst:Option Nat) (x:AV):AS :=
 { s with tmps:=match dst with | some d=>s.tmps.set d x | none=>s.tmps }
theorem cQ.set {G:aL}{w:World}{xs:List AV}{vs:List Value} (h:cQ G w xs vs) (d:Nat) {x:AV}{v:Value} (hx:aR G w x v):cQ G w (xs.set d x) (vs.set d v):=by
 refine ⟨by simpa using h.1,fun i y u hy hu=>?_⟩
 rw [List.getElem?_set] at hy hu
 by_cases hd:d=i
 ·subst hd
  by_cases hl:d < xs.length
  ·rw [if_pos rfl,if_pos hl] at hy
   rw [if_pos rfl,if_pos (by rw [h.1]; exact hl)] at hu
   cases hy; cases hu; exact hx
  ·rw [if_pos rfl,if_neg hl] at hy
   cases hy
 ·rw [if_neg hd] at hy hu
  exact h.2 i y u hy hu
theorem Act.put_toList (a:Act) (dst:Option Tmp) (v:Value):(a.put dst v).tmps.toList=(match dst with | some d=>a.tmps.toList.set d v | none=>a.tmps.toList):=by
 cases dst <;> simp [Act.put]
theorem Act.put_defers (a:Act) (dst:Option Tmp) (v:Value):(a.put dst v).defers=a.defers:=by
 cases dst <;> rfl
theorem Sat.put [Df] {G G':aL}{s:AS}{a:Act}{w w':World} (h:Sat G s a w) (hst:Ext G w G' w') {objs:List Obj} (hm:Mem G' objs w') (dst:Option Nat) {x:AV}{v:Value} (hx:aR G' w' x v) :
  Sat G' { s.put dst x with objs:=objs } (a.put dst v) w':=by
 refine ⟨hm,?_,by rw [Act.put_defers]; exact h.defers⟩
 rw [Act.put_toList]
 cases dst with
 | none=>exact h.tmps.mono hst
 | some d=>exact (h.tmps.mono hst).set d hx
theorem Sat.put0 [Df] {G:aL}{s:AS}{a:Act}{w:World} (h:Sat G s a w) (dst:Option Nat) {x:AV}{v:Value} (hx:aR G w x v) :
  Sat G (s.put dst x) (a.put dst v) w:=h.put (.refl G w) h.mem dst hx
theorem r6 {G:aL}{w:World}{x u:Value} (h:aR G w (.v x) u):u=x:=by cases h; rfl
structure TI where
 desc:TypeDesc
 size:Nat
 bytes:Nat
 zero:List Value
def ti (P:Program) (t:TypeId):Option TI :=
 match P.underlying t,P.info? t with
 | some d,some i=>match i.zero with
  | some z=>if z.cells.size=i.size∧z.cells.all (·.oneCell')=true then some ⟨d,i.size,i.bytes,z.cells.toList⟩ else none
  | none=>none
 | _,_=>none
theorem b5 {P:Program}{t:TypeId}{i:TI} (h:ti P t=some i):P.underlying t=some i.desc ∧
  ∃ f z,P.info? t=some f∧f.zero=some z∧f.size=i.size∧f.bytes=i.bytes∧z.cells=i.zero.toArray∧i.zero.length=i.size∧∀ v ∈ i.zero,v.oneCell'=true:=by
 unfold ti at h
 split at h
 ·rename_i d f hd hf
  split at h
  ·rename_i z hz
   split at h
   ·rename_i hc
    cases h
    refine ⟨hd,f,z,hf,hz,rfl,rfl,by simp,by simpa using hc.1,fun v hv=>?_⟩
    have:=Array.all_eq_true_iff_forall_mem.1 hc.2 v (by simpa using hv)
    exact this
   ·cases h
  ·cases h
 ·cases h
theorem dL {P:Program}{t:TypeId}{i:TI} (h:ti P t=some i) (w:World):(sizeOf t).run P w=.ok i.size w:=by
 obtain ⟨_,f,z,hf,_,hs,_⟩:=b5 h
 simp [sizeOf,typeInfo,hf,hs]
theorem eH {P:Program}{t:TypeId}{i:TI} (h:ti P t=some i) (w:World):(underlying t).run P w=.ok i.desc w :=
 run_underlying (b5 h).1 w
theorem ET {P:Program}{t:TypeId}{i:TI} (h:ti P t=some i) (w:World):∃ z,(zeroValue t).run P w=.ok z w∧z.cells=i.zero.toArray:=by
 obtain ⟨_,f,z,hf,hz,hs,_,hc,_⟩:=b5 h
 exact ⟨z,by simp [zeroValue,typeInfo,hf,hz],hc⟩
def TI.isAgg (i:TI):Bool:=match i.desc with | .struct _=>true | .array _ _=>true | _=>false
theorem Bz {P:Program}{t:TypeId}{i:TI} (h:ti P t=some i) (w:World):(isAgg t).run P w=.ok i.isAgg w:=by
 simp only [isAgg,Sem.run_bind,eH h,Result.andThen_ok,TI.isAgg]
 cases i.desc <;> rfl
def j8 (a b:ByteArray):Bool:=Op.bytesLess a.data.toList b.data.toList
theorem CK (a b:ByteArray):(a.toList == b.toList)=decide (a=b):=by
 rw [ByteArray.toList_eq,ByteArray.toList_eq,Bool.eq_iff_iff]
 simp only [beq_iff_eq,decide_eq_true_eq]
 constructor
 ·intro h
  cases a; cases b
  simpa using h
 ·rintro rfl; rfl
def Pl (op:BinOp) (q:IntKind) (a b:Int) (k:Value→Prop):Prop :=
 match op with
 | .add=>k (.int q (q.wrap (a + b)))
 | .sub=>k (.int q (q.wrap (a - b)))
 | .mul=>k (.int q (q.wrap (a * b)))
 | .quo=>b ≠ 0∧k (.int q (q.wrap (a.tdiv b)))
 | .rem=>b ≠ 0∧k (.int q (a.tmod b))
 | .and=>k (.int q (q.wrap (BitVec.ofInt q.bits a &&& BitVec.ofInt q.bits b).toNat))
 | .or=>k (.int q (q.wrap (BitVec.ofInt q.bits a ||| BitVec.ofInt q.bits b).toNat))
 | .xor=>k (.int q (q.wrap (BitVec.ofInt q.bits a ^^^ BitVec.ofInt q.bits b).toNat))
 | .andNot=>k (.int q (q.wrap (BitVec.ofInt q.bits a &&& ~~~BitVec.ofInt q.bits b).toNat))
 | .eql=>k (.bool (decide (a=b)))
 | .neq=>k (.bool (!decide (a=b)))
 | .lss=>k (.bool (decide (a < b)))
 | .leq=>k (.bool (decide (a≤b)))
 | .gtr=>k (.bool (decide (b < a)))
 | .geq=>k (.bool (decide (b≤a)))
 | _=>False
def Pj (op:BinOp) (a b:ByteArray) (k:Value→Prop):Prop :=
 match op with
 | .add=>a.size + b.size≤9223372036854775807∧k (.string (a ++ b))
 | .eql=>k (.bool (decide (a=b)))
 | .neq=>k (.bool (!decide (a=b)))
 | .lss=>k (.bool (j8 a b))
 | .leq=>k (.bool (!j8 b a))
 | .gtr=>k (.bool (j8 b a))
 | .geq=>k (.bool (!j8 a b))
 | _=>False
def Bd (op:BinOp) (x y:Value) (k:Value→Prop):Prop :=
 match x,y with
 | .int q a,.int q' b=>
  match op with
  | .shl=>0≤b∧k (.int q (q.wrap (a * 2 ^ min b.toNat q.bits)))
  | .shr=>0≤b∧k (.int q (a / 2 ^ min b.toNat q.bits))
  | op=>q=q'∧Pl op q a b k
 | .string a,.string b=>Pj op a b k
 | _,_=>False
theorem AA:∀ (a b:List UInt8),(Op.bytesLess a b || (a == b))=!Op.bytesLess b a
 | [],[]=>rfl
 | [],_ :: _=>rfl
 | _ :: _,[]=>rfl
 | x :: a,y :: b=>by
  have ih:=AA a b
  simp only [Op.bytesLess]
  rcases Nat.lt_trichotomy x.toNat y.toNat with h | h | h
  ·have h1:(decide (x < y))=true:=by simpa [UInt8.lt_iff_toNat_lt] using h
   have h2:(decide (y < x))=false:=by simp only [decide_eq_false_iff_not,UInt8.lt_iff_toNat_lt]; omega
   have h3:(y == x)=false:=by rw [beq_eq_false_iff_ne]; intro e; subst e; omega
   simp [h1,h2,h3]
  ·have he:x=y:=UInt8.toNat_inj.1 h
   subst he
   have h1:(decide (x < x))=false:=by simp only [decide_eq_false_iff_not,UInt8.lt_iff_toNat_lt]; omega
   simp only [h1,Bool.false_or,beq_self_eq_true,Bool.true_and,List.cons_beq_cons]
   exact ih
  ·have h1:(decide (y < x))=true:=by simpa [UInt8.lt_iff_toNat_lt] using h
   have h2:(decide (x < y))=false:=by simp only [decide_eq_false_iff_not,UInt8.lt_iff_toNat_lt]; omega
   have h3:(x == y)=false:=by rw [beq_eq_false_iff_ne]; intro e; subst e; omega
   simp [h1,h2,h3,List.cons_beq_cons]
theorem uC {P:Program}{op:BinOp}{x y:Value}{k:Value→Prop} (h:Bd op x y k) (t:TypeId) (ox oy:Operand) (w:World) :
  ∃ r,(do eqGuard op t ox oy x y; binOp op t x y:Sem Value).run P w=.ok r w∧r.oneCell'=true∧k r:=by
 cases x with
 | int q a=>
  cases y with
  | int q' b=>
   have hb:(binOp op t (.int q a) (.int q' b)).run P w=(do eqGuard op t ox oy (.int q a) (.int q' b); binOp op t (.int q a) (.int q' b):Sem Value).run P w:=by
    rw [Sem.run_bind,eqGuard_at_int]; rfl
   rw [← hb]
   cases op <;> simp only [Bd,Pl] at h
   case shl=>obtain ⟨h1,h2⟩:=h; exact ⟨_,by simp [binOp,shift_shl_any _ _ _ _ h1],rfl,h2⟩
   case shr=>obtain ⟨h1,h2⟩:=h; exact ⟨_,by simp [binOp,shift_shr_any _ _ _ _ h1],rfl,h2⟩
   case quo=>obtain ⟨rfl,h1,h2⟩:=h; exact ⟨_,by simp [binOp,Op.intDiv,h1],rfl,h2⟩
   case rem=>obtain ⟨rfl,h1,h2⟩:=h; exact ⟨_,by simp [binOp,Op.intDiv,h1],rfl,h2⟩
   all_goals (try (obtain ⟨rfl,h2⟩:=h; refine ⟨_,?_,rfl,h2⟩; simp [binOp,Op.intArith,Op.intBits,Op.intCmp]; done))
   all_goals (obtain ⟨rfl,h2⟩:=h; refine ⟨_,?_,rfl,h2⟩; simp only [binOp,Op.intCmp,ne_eq,not_true_eq_false,if_false,Sem.run_pure]; rfl)
  | _=>exact h.elim
 | string a=>
  cases y with
  | string b=>
   have hb:(binOp op t (.string a) (.string b)).run P w=(do eqGuard op t ox oy (.string a) (.string b); binOp op t (.string a) (.string b):Sem Value).run P w:=by
    rw [Sem.run_bind,eqGuard_at_string]; rfl
   rw [← hb]
   have e1:=CK a b
   have e2:Op.bytesLess a.toList b.toList=j8 a b:=by rw [ByteArray.toList_eq,ByteArray.toList_eq]; rfl
   have e3:(j8 a b || decide (a=b))=!j8 b a:=by
    rw [← e1,ByteArray.toList_eq,ByteArray.toList_eq]; exact AA _ _
   cases op <;> simp only [Bd,Pj] at h
   case add=>obtain ⟨h1,h2⟩:=h; exact ⟨_,by rw [show binOp .add t (.string a) (.string b)=Op.stringOp .add a b from rfl]; exact run_string_add_sum w a b h1,rfl,h2⟩
   all_goals (refine ⟨_,?_,rfl,h⟩; simp only [binOp,Op.stringOp,e1,e2,e3,Sem.run_pure,Bool.not_not])
  | _=>exact h.elim
 | _=>exact h.elim
def KY (op:BinOp) (a b:Bool) (k:Value→Prop):Prop :=
 match op with
 | .eql=>k (.bool (a == b))
 | .neq=>k (.bool (!(a == b)))
 | _=>False
theorem Nu {P:Program}{op:BinOp}{a b:Bool}{k:Value→Prop} (h:KY op a b k) (t:TypeId) (ht:P.underlying t=some .bool) (ox oy:Operand) (w:World) :
  ∃ r,(do eqGuard op t ox oy (.bool a) (.bool b); binOp op t (.bool a) (.bool b):Sem Value).run P w=.ok r w∧r.oneCell'=true∧k r:=by
 have he:(Op.equal t (.bool a) (.bool b)).run P w=.ok (a == b) w:=run_equalIn_bool' w 9999 t a b ht
 cases op <;> simp only [KY] at h
 case eql=>exact ⟨_,by rw [Sem.run_bind,eqGuard_at_bool]; simp [binOp,he],rfl,h⟩
 case neq=>exact ⟨_,by rw [Sem.run_bind,eqGuard_at_bool]; simp [binOp,he],rfl,h⟩
theorem nQ {G:aL}{w:World}{d:D}{v:Value} (h:eX w G.imm d v):aR G w (.ofD d) v:=by
 cases d with
 | v x=>cases h with | v _ h=>exact .v _ h
 | sl rows=>exact .sl rows .none v (eX.sl_iff.1 h) trivial
def kK (P:Program) (objs:List Obj) (t:TypeId) (x:AV) (k:AV→Prop):Prop :=
 match ti P t with
 | some i=>
  match x with
  | .ptr o off=>
   match objs[o]? with
   | some (.box cells)=>off + i.size≤cells.length∧(if i.isAgg then k (.agg ((cells.drop off).take i.size)) else i.size=1∧k (cells.getD off .any))
   | some (.bld _ buf)=>off=1∧i.isAgg=false∧i.size=1∧k buf
   | _=>False
  | .ep rows r off _=>(r < rows.length∧off + i.size≤(rows.getD r []).length ∧
    (if i.isAgg then k (.agg ((((rows.getD r []).drop off).take i.size).map .ofD)) else i.size=1∧k (.ofD ((rows.getD r []).getD off default)))) ∨
    (r=0∧off=0∧i.isAgg=true∧(∃ sz,(∀ x ∈ rows,x.length=sz)∧i.size=rows.length * sz)∧k (.agg (rows.flatten.map .ofD)))
  | _=>False
 | none=>False
theorem lM {w:World}{b:Nat}{c:Array Value}{e:TypeId}{fr:Nat × Nat} (h:w.heap[b]?=some (.cells c e fr)) (j:Nat):w.cell? ⟨b,j,none⟩=c[j]?:=by
 simp [World.cell?,h]
theorem Mem.obj {G:aL}{objs:List Obj}{w:World} (h:Mem G objs w) {o:Nat}{x:Obj} (ho:objs[o]?=some x):∃ g,G.bl[o]?=some g∧iU G w g x:=by
 have hl:o < G.bl.length:=by
  rw [h.len]
  rcases Nat.lt_or_ge o objs.length with hl | hl
  ·exact hl
  ·rw [List.getElem?_eq_none hl] at ho; cases ho
 exact ⟨_,List.getElem?_eq_getElem hl,h.ok o x _ ho (List.getElem?_eq_getElem hl)⟩
theorem GN {α:Type}{sz:Nat}:∀ {rows:List (List α)}{q:Nat}{d:α},(∀ x ∈ rows,x.length=sz)→rows.flatten[q]?=some d→∃ i j r,rows[i]?=some r∧r[j]?=some d∧q=i * sz + j
 | [],q,d,_,h=>by simp at h
 | x :: rows,q,d,hs,h=>by
  have hx:=hs x List.mem_cons_self
  rw [List.flatten_cons] at h
  rcases Nat.lt_or_ge q x.length with hq | hq
  ·rw [List.getElem?_append_left hq] at h
   exact ⟨0,q,x,rfl,h,by omega⟩
  ·rw [List.getElem?_append_right hq] at h
   obtain ⟨i,j,r,h1,h2,h3⟩:=GN (fun y hy=>hs y (List.mem_cons_of_mem _ hy)) h
   exact ⟨i + 1,j,r,h1,h2,by rw [Nat.add_mul]; omega⟩
theorem A8 {α:Type}{sz:Nat}:∀ {rows:List (List α)},(∀ x ∈ rows,x.length=sz)→rows.flatten.length=rows.length * sz
 | [],_=>by simp
 | x :: rows,hs=>by
  rw [List.flatten_cons,List.length_append,hs x List.mem_cons_self,A8 (fun y hy=>hs y (List.mem_cons_of_mem _ hy)),List.length_cons,Nat.add_mul]; omega
theorem DQ {α:Type}{sz:Nat}:∀ {rows:List (List α)}{i:Nat}{r:List α},(∀ x ∈ rows,x.length=sz)→rows[i]?=some r→(rows.flatten.drop (i * sz)).take sz=r
 | [],i,r,_,h=>by simp at h
 | x :: rows,0,r,hs,h=>by
  cases h
  have hx:=hs x List.mem_cons_self
  rw [List.flatten_cons,Nat.zero_mul,List.drop_zero,← hx,List.take_left]
 | x :: rows,i + 1,r,hs,h=>by
  have hx:=hs x List.mem_cons_self
  rw [List.flatten_cons,show (i + 1) * sz=x.length + i * sz from by rw [Nat.add_mul]; omega,List.drop_append,List.drop_eq_nil_of_le (by omega),List.nil_append,Nat.add_sub_cancel_left]
  exact DQ (fun y hy=>hs y (List.mem_cons_of_mem _ hy)) (by simpa using h)
theorem CZ {P:Program}{G:aL}{objs:List Obj}{w:World}{t:TypeId}{x:AV}{v:Value}{k:AV→Prop}
  (h:kK P objs t x k) (hm:Mem G objs w) (hx:aR G w x v):∃ r y,(Instr.loadAt t v).run P w=.ok r w∧aR G w y r∧k y:=by
 unfold kK at h
 cases hti:ti P t with
 | none=>simp [hti] at h
 | some i=>
  simp only [hti] at h
  cases x <;> try exact h.elim
  case ptr o off=>
   simp only at h
   cases hob:objs[o]? with
   | none=>simp [hob] at h
   | some ob=>
    cases ob with
    | box cells=>
     simp only [hob] at h
     obtain ⟨hle,h⟩:=h
     cases hx with
     | ptr _ _ b hb=>
      obtain ⟨g,hg,hok⟩:=hm.obj hob
      rw [hb] at hg; cases hg
      rcases hok with ⟨_,l,hl⟩ | ⟨b',c,e,hbe,hh,hsz,hc,him⟩
      ·cases hl
      cases hbe
      simp only [Instr.loadAt,Instr.sureAddr,Sem.run_bind,Sem.run_pure,Result.andThen_ok,loadVar,Bz hti,Sem.run_ite]
      by_cases ha:i.isAgg=true
      ·simp only [ha,if_true] at h ⊢
       have hl:=run_loadCells_list (P:=P) w ⟨b,off,none⟩ ((c.toList.drop off).take i.size) (by
        intro j u hu
        rw [Addr.add_lit,lM hh]
        rw [List.getElem?_take] at hu
        split at hu
        ·simpa using hu
        ·cases hu)
       have hlen:((c.toList.drop off).take i.size).length=i.size:=by simp; omega
       rw [hlen] at hl
       refine ⟨.agg ((c.toList.drop off).take i.size).toArray,_,by simp [dL hti,hl],.agg _ _ (by simp; omega) ?_ ?_,h⟩
       ·intro j u hu
        rw [List.getElem?_take] at hu
        split at hu
        ·rename_i hjs
         rw [List.getElem?_drop] at hu
         have hj:off + j < cells.length:=by omega
         exact (hc (off + j) cells[off + j] u (List.getElem?_eq_getElem hj) (by simpa using hu)).1
        ·cases hu
       ·intro j y u hy hu
        rw [List.getElem?_take] at hu hy
        split at hu
        ·rename_i hlt
         rw [if_pos hlt] at hy
         rw [List.getElem?_drop] at hu hy
         exact (hc (off + j) y u hy (by simpa using hu)).2
        ·cases hu
      ·simp only [ha,Bool.false_eq_true,if_false] at h ⊢
       obtain ⟨h1,h⟩:=h
       have hoff:off < c.size:=by omega
       have hoff':off < cells.length:=by omega
       refine ⟨c[off],cells[off],?_,(hc off cells[off] c[off] (List.getElem?_eq_getElem hoff') (by simp [hoff])).2,?_⟩
       ·simp [lM hh,hoff]
       ·simpa [List.getD_eq_getElem?_getD,List.getElem?_eq_getElem hoff'] using h
    | bld e buf=>
     simp only [hob] at h
     obtain ⟨rfl,ha,hs,h⟩:=h
     cases hx with
     | ptr _ _ b hb=>
      obtain ⟨g,hg,hok⟩:=hm.obj hob
      rw [hb] at hg; cases hg
      obtain ⟨b',c0,c1,hbe,hh,_,h1,hc,him⟩:=hok
      cases hbe
      refine ⟨c1,buf,?_,hc,h⟩
      simp only [Instr.loadAt,Instr.sureAddr,Sem.run_bind,Sem.run_pure,Result.andThen_ok,loadVar,Bz hti,Sem.run_ite,ha,Bool.false_eq_true,if_false]
      simp [lM hh]
    | _=>simp [hob] at h
  case ep rows r off tk=>
   simp only at h
   rcases h with ⟨hr,hle,h⟩ | ⟨rfl,rfl,ha,⟨sz',hs',his⟩,h⟩
   rotate_left
   ·cases hx with
    | ep _ _ _ _ b st sz hrows c ht=>
     have hcell:∀ q d,rows.flatten[q]?=some d→∃ u,w.cell? ⟨b,st + q,none⟩=some u∧eX w G.imm d u:=by
      intro q d hq
      obtain ⟨i',j,r,h1,h2,h3⟩:=GN hs' hq
      obtain ⟨u,hu,_,hc⟩:=hrows.2 i' j r d h1 h2
      have e:sz=sz':=by rw [← hrows.1 i' r h1,hs' r (List.mem_of_getElem? h1)]
      subst e
      exact ⟨u,by rw [h3,← Nat.add_assoc]; exact hu,hc⟩
     have hfl:=A8 hs'
     simp only [Instr.loadAt,Instr.sureAddr,Sem.run_bind,Sem.run_pure,Result.andThen_ok,loadVar,Bz hti,Sem.run_ite,ha,if_true]
     have hl:=run_loadCells (P:=P) w ⟨b,st,none⟩ i.size (fun j=>(w.cell? ⟨b,st + j,none⟩).getD undef) (by
      intro j hj
      obtain ⟨u,hu,_⟩:=hcell j (rows.flatten[j]'(by omega)) (List.getElem?_eq_getElem (by omega))
      rw [Addr.add_lit,hu]; rfl)
     refine ⟨.agg _,_,by simp [dL hti,hl]; rfl,?_,h⟩
     have hfin:=aR.agg (G:=G) (w:=w) (rows.flatten.map .ofD) ((List.range i.size).map fun j=>(w.cell? ⟨b,st + j,none⟩).getD undef) (by simp only [List.length_map,List.length_range]; omega) ?_ ?_
     ·simpa using hfin
     ·intro j u hu
      simp only [List.getElem?_map] at hu
      rcases Nat.lt_or_ge j i.size with hj | hj
      ·rw [List.getElem?_range hj] at hu
       obtain ⟨x,hx,hc⟩:=hcell j (rows.flatten[j]'(by omega)) (List.getElem?_eq_getElem (by omega))
       simp only [Option.map_some,hx,Option.getD_some,Option.some.injEq] at hu
       subst hu; exact hc.one
      ·rw [List.getElem?_eq_none (by simpa using hj)] at hu; cases hu
     ·intro j y u hy hu
      simp only [List.getElem?_map] at hu hy
      rcases Nat.lt_or_ge j i.size with hj | hj
      ·rw [List.getElem?_range hj] at hu
       have hd:=List.getElem?_eq_getElem (l:=rows.flatten) (i:=j) (by omega)
       obtain ⟨x,hx,hc⟩:=hcell j _ hd
       simp only [Option.map_some,hx,Option.getD_some,Option.some.injEq] at hu
       rw [hd] at hy
       simp only [Option.map_some,Option.some.injEq] at hy
       subst hu; subst hy; exact nQ hc
      ·rw [List.getElem?_eq_none (by simpa using hj)] at hu; cases hu
   cases hx with
   | ep _ _ _ _ b st sz hrows c ht=>
    have hrow:rows[r]?=some rows[r]:=List.getElem?_eq_getElem hr
    have hrl:=hrows.1 r _ hrow
    have hgetD:rows.getD r []=rows[r]:=by simp [List.getD_eq_getElem?_getD,hrow]
    rw [hgetD] at h hle
    simp only [Instr.loadAt,Instr.sureAddr,Sem.run_bind,Sem.run_pure,Result.andThen_ok,loadVar,Bz hti,Sem.run_ite]
    have hcell:∀ j,j < sz→∃ d u,rows[r][j]?=some d∧w.cell? ⟨b,st + r * sz + j,none⟩=some u∧eX w G.imm d u:=by
     intro j hj
     have hd:rows[r][j]?=some (rows[r][j]'(by omega)):=List.getElem?_eq_getElem (by omega)
     obtain ⟨u,hu,_,hc⟩:=hrows.2 r j _ _ hrow hd
     exact ⟨_,u,hd,hu,hc⟩
    by_cases ha:i.isAgg=true
    ·simp only [ha,if_true] at h ⊢
     have hl:=run_loadCells (P:=P) w ⟨b,st + r * sz + off,none⟩ i.size (fun j=>(w.cell? ⟨b,st + r * sz + off + j,none⟩).getD undef) (by
      intro j hj
      obtain ⟨d,u,_,hu,_⟩:=hcell (off + j) (by omega)
      rw [Addr.add_lit]
      rw [show st + r * sz + off + j=st + r * sz + (off + j) from by omega,hu]; rfl)
     refine ⟨.agg _,_,by simp [dL hti,hl]; rfl,?_,h⟩
     have hfin:=aR.agg (G:=G) (w:=w) ((((rows[r]).drop off).take i.size).map .ofD) ((List.range i.size).map fun j=>(w.cell? ⟨b,st + r * sz + off + j,none⟩).getD undef) (by simp; omega) ?_ ?_
     ·simpa using hfin
     ·intro j u hu
      simp only [List.getElem?_map] at hu
      rcases Nat.lt_or_ge j i.size with hj | hj
      ·rw [List.getElem?_range hj] at hu
       obtain ⟨d,x,_,hx,hc⟩:=hcell (off + j) (by omega)
       rw [← Nat.add_assoc] at hx
       simp only [Option.map_some,hx,Option.getD_some,Option.some.injEq] at hu
       subst hu; exact hc.one
      ·rw [List.getElem?_eq_none (by simpa using hj)] at hu; cases hu
     ·intro j y u hy hu
      simp only [List.getElem?_map] at hu
      rcases Nat.lt_or_ge j i.size with hj | hj
      ·rw [List.getElem?_range hj] at hu
       obtain ⟨d,x,hd,hx,hc⟩:=hcell (off + j) (by omega)
       rw [← Nat.add_assoc] at hx
       simp only [Option.map_some,hx,Option.getD_some,Option.some.injEq] at hu
       subst hu
       rw [List.getElem?_map,List.getElem?_take,if_pos hj,List.getElem?_drop,hd] at hy
       cases hy
       exact nQ hc
      ·rw [List.getElem?_eq_none (by simpa using hj)] at hu; cases hu
    ·simp only [ha,Bool.false_eq_true,if_false] at h ⊢
     obtain ⟨h1,h⟩:=h
     obtain ⟨d,u,hd,hu,hc⟩:=hcell off (by omega)
     refine ⟨u,.ofD d,by simp [hu],nQ hc,?_⟩
     simpa [List.getD_eq_getElem?_getD,hd] using h
def lO (i:TI) (f:Nat):Option Field:=match i.desc with | .struct fs=>fs[f]? | _=>none
def iM (P:Program) (t:TypeId) (f:Nat) (x:AV) (k:AV→Prop):Prop :=
 match ti P t with
 | some i=>
  match lO i f with
  | some fd=>
   match ti P fd.type with
   | some j=>j.size ≠ 0∧(match x with
    | .ptr o off=>k (.ptr o (off + fd.offset))
    | .ep rows r off tk=>k (.ep rows r (off + fd.offset) tk)
    | _=>False)
   | none=>False
  | none=>False
 | none=>False
theorem Addr.add_mk (b o n:Nat):(⟨b,o,none⟩:Addr).add n=⟨b,o + n,none⟩:=Addr.add_lit b o n
theorem s6 {P:Program}{G:aL}{w:World}{t:TypeId}{f:Nat}{x:AV}{v:Value}{k:AV→Prop}
  (h:iM P t f x k) (hx:aR G w x v):∃ r y,(Instr.fieldAt t v f).run P w=.ok r w∧aR G w y r∧k y:=by
 unfold iM at h
 cases hti:ti P t with
 | none=>simp [hti] at h
 | some i=>
  simp only [hti] at h
  cases hf:lO i f with
  | none=>simp [hf] at h
  | some fd=>
   simp only [hf] at h
   have hdesc:∃ fs,i.desc=.struct fs∧fs[f]?=some fd:=by
    unfold lO at hf
    split at hf
    ·rename_i fs hfs; exact ⟨fs,hfs,hf⟩
    ·cases hf
   obtain ⟨fs,hfs,hfd⟩:=hdesc
   cases htj:ti P fd.type with
   | none=>simp [htj] at h
   | some j=>
    simp only [htj] at h
    obtain ⟨hj,h⟩:=h
    have hu:(underlying t).run P w=.ok (.struct fs) w:=by rw [eH hti,hfs]
    have hp:∀ a:Addr,(fieldPlace a fd).run P w=.ok (a.add fd.offset) w:=by
     intro a
     simp [fieldPlace,dL htj,hj]
    cases x <;> try exact h.elim
    case ptr o off=>
     cases hx with
     | ptr _ _ b hb=>
      refine ⟨.pointer (some ⟨b,off + fd.offset,none⟩),_,?_,.ptr o _ b hb,h⟩
      simp [Instr.fieldAt,hu,hfd,Instr.sureAddr,hp,Addr.add_mk]
    case ep rows r off tk=>
     cases hx with
     | ep _ _ _ _ b st sz hr c ht=>
      refine ⟨.pointer (some ⟨b,st + r * sz + (off + fd.offset),none⟩),_,?_,.ep rows r _ tk b st sz hr c ht,h⟩
      simp [Instr.fieldAt,hu,hfd,Instr.sureAddr,hp,Addr.add_mk,Nat.add_assoc]
def kU (P:Program) (t:TypeId) (x ix:AV) (k:AV→Prop):Prop :=
 match ti P t with
 | some i=>
  match ix with
  | .v (.int _ n)=>
   match i.desc with
   | .slice e=>
    match ti P e with
    | some j=>
     match x with
     | .sl rows tk=>0≤n∧n < rows.length∧(rows.getD n.toNat []).length=j.size∧k (.ep rows n.toNat 0 tk)
     | .bsl o off len=>0≤n∧n < len∧k (.ptr o (off + n.toNat * j.size))
     | _=>False
    | none=>False
   | .array len e=>
    match ti P e with
    | some j=>
     match x with
     | .ptr o off=>0≤n∧n < len∧k (.ptr o (off + n.toNat * j.size))
     | .ep rows r off tk=>0≤n∧n < len∧(k (.ep rows r (off + n.toNat * j.size) tk) ∨ (off=0∧r + n.toNat < rows.length∧(rows.getD r []).length=j.size∧k (.ep rows (r + n.toNat) 0 tk)))
     | _=>False
    | none=>False
   | _=>False
  | _=>False
 | none=>False
theorem Av {P:Program}{G:aL}{w:World}{t:TypeId}{x ix:AV}{v vi:Value}{k:AV→Prop}
  (h:kU P t x ix k) (hx:aR G w x v) (hi:aR G w ix vi):∃ r y,(Instr.indexAt t v vi).run P w=.ok r w∧aR G w y r∧k y:=by
 unfold kU at h
 cases hti:ti P t with
 | none=>simp [hti] at h
 | some i=>
  simp only [hti] at h
  cases ix <;> try exact h.elim
  case v q=>
  cases q <;> try exact h.elim
  case int kk n=>
  cases hi
  simp only at h
  have hu:=eH hti w
  cases hd:i.desc <;> simp only [hd] at h <;> try exact h.elim
  case slice e=>
   rw [hd] at hu
   cases hte:ti P e with
   | none=>simp [hte] at h
   | some j=>
    simp only [hte] at h
    cases x <;> try exact h.elim
    case sl rows tk=>
     obtain ⟨h0,h1,hj,h⟩:=h
     cases hx with
     | sl _ _ _ hdc htk=>
      obtain ⟨a,c,rfl,hn,hc,hor⟩:=hdc
      rcases hor with rfl | ⟨b,st,sz,rfl,hr⟩
      ·simp at h1; omega
      ·have hlt:n.toNat < rows.length:=by omega
       have hrl:=hr.1 n.toNat _ (List.getElem?_eq_getElem hlt)
       have hj:j.size=sz:=by
        rw [← hj,← hrl]; simp [List.getD_eq_getElem?_getD,List.getElem?_eq_getElem hlt]
       refine ⟨.pointer (some ⟨b,st + n.toNat * sz + 0,none⟩),_,?_,.ep rows n.toNat 0 tk b st sz hr c htk,h⟩
       simp [Instr.indexAt,hu,asIntOf,h0,h1,dL hte,hj,Addr.add_mk]
    case bsl o off len=>
     obtain ⟨h0,h1,h⟩:=h
     cases hx with
     | bsl0 _ _ cap a h2=>simp at h1; omega
     | bsl _ _ _ cap b hb _ _=>
      refine ⟨.pointer (some ⟨b,off + n.toNat * j.size,none⟩),_,?_,.ptr o _ b hb,h⟩
      simp [Instr.indexAt,hu,asIntOf,h0,h1,dL hte,Addr.add_mk]
  case array len e=>
   rw [hd] at hu
   cases hte:ti P e with
   | none=>simp [hte] at h
   | some j=>
    simp only [hte] at h
    cases x <;> try exact h.elim
    case ptr o off=>
     obtain ⟨h0,h1,h⟩:=h
     cases hx with
     | ptr _ _ b hb=>
      refine ⟨.pointer (some ⟨b,off + n.toNat * j.size,none⟩),_,?_,.ptr o _ b hb,h⟩
      simp [Instr.indexAt,hu,asIntOf,h0,h1,dL hte,Addr.add_mk,Instr.sureAddr]
    case ep rows r off tk=>
     obtain ⟨h0,h1,h⟩:=h
     cases hx with
     | ep _ _ _ _ b st sz hr c ht=>
      rcases h with h | ⟨rfl,hlt,hj,h⟩
      ·refine ⟨.pointer (some ⟨b,st + r * sz + (off + n.toNat * j.size),none⟩),_,?_,.ep rows r _ tk b st sz hr c ht,h⟩
       simp [Instr.indexAt,hu,asIntOf,h0,h1,dL hte,Addr.add_mk,Instr.sureAddr,Nat.add_assoc]
      ·have hlr:r < rows.length:=by omega
       have hrl:=hr.1 r _ (List.getElem?_eq_getElem hlr)
       have hj:j.size=sz:=by
        rw [← hj,← hrl]; simp [List.getD_eq_getElem?_getD,List.getElem?_eq_getElem hlr]
       refine ⟨.pointer (some ⟨b,st + (r + n.toNat) * sz + 0,none⟩),_,?_,.ep rows (r + n.toNat) 0 tk b st sz hr c ht,h⟩
       simp [Instr.indexAt,hu,asIntOf,h0,h1,dL hte,hj,Addr.add_mk,Instr.sureAddr,Nat.add_mul,Nat.add_assoc]
def q0 (j:TI) (cs:List AV) (off:Nat) (k:AV→Prop):Prop :=
 off + j.size≤cs.length∧(if j.isAgg then k (.agg ((cs.drop off).take j.size)) else 0 < j.size∧k (cs.getD off .any))
theorem CY {P:Program}{G:aL}{w:World}{t:TypeId}{j:TI} (ht:ti P t=some j) {cs:List AV}{vs:List Value}{off:Nat}{k:AV→Prop}
  (h:q0 j cs off k) (hl:vs.length=cs.length) (h1:∀ (i:Nat) (v:Value),vs[i]?=some v→v.oneCell'=true)
  (hc:∀ (i:Nat) (c:AV) (v:Value),cs[i]?=some c→vs[i]?=some v→aR G w c v) :
  ∃ r y,(part t vs.toArray off).run P w=.ok r w∧aR G w y r∧k y:=by
 obtain ⟨hle,h⟩:=h
 simp only [part,Sem.run_bind,Bz ht,Result.andThen_ok,Sem.run_ite]
 by_cases ha:j.isAgg=true
 ·simp only [ha,if_true] at h ⊢
  refine ⟨.agg ((vs.drop off).take j.size).toArray,_,?_,.agg _ _ (by simp; omega) ?_ ?_,h⟩
  ·simp [dL ht,List.extract_eq_take_drop]
  ·intro i v hv
   rw [List.getElem?_take] at hv
   split at hv
   ·rw [List.getElem?_drop] at hv; exact h1 _ _ hv
   ·cases hv
  ·intro i c v hcc hv
   rw [List.getElem?_take] at hv hcc
   split at hv
   ·rename_i hlt
    rw [if_pos hlt,List.getElem?_drop] at hcc
    rw [List.getElem?_drop] at hv
    exact hc _ _ _ hcc hv
   ·cases hv
 ·simp only [ha,Bool.false_eq_true,if_false] at h ⊢
  obtain ⟨h0,h⟩:=h
  have ho:off < cs.length:=by omega
  have ho':off < vs.length:=by omega
  refine ⟨vs[off],cs[off],by simp [ho'],hc off _ _ (List.getElem?_eq_getElem ho) (List.getElem?_eq_getElem ho'),?_⟩
  simpa [List.getD_eq_getElem?_getD,List.getElem?_eq_getElem ho] using h
def yK (P:Program) (t:TypeId) (f:Nat) (x:AV) (k:AV→Prop):Prop :=
 match ti P t with
 | some i=>
  match lO i f with
  | some fd=>
   match ti P fd.type with
   | some j=>(match x with | .agg cs=>q0 j cs fd.offset k | _=>False)
   | none=>False
  | none=>False
 | none=>False
theorem FA {P:Program}{G:aL}{w:World}{t:TypeId}{f:Nat}{x:AV}{v:Value}{k:AV→Prop}
  (h:yK P t f x k) (hx:aR G w x v):∃ r y,(Instr.field t v f).run P w=.ok r w∧aR G w y r∧k y:=by
 unfold yK at h
 cases hti:ti P t with
 | none=>simp [hti] at h
 | some i=>
  simp only [hti] at h
  cases hf:lO i f with
  | none=>simp [hf] at h
  | some fd=>
   simp only [hf] at h
   have hdesc:∃ fs,i.desc=.struct fs∧fs[f]?=some fd:=by
    unfold lO at hf
    split at hf
    ·rename_i fs hfs; exact ⟨fs,hfs,hf⟩
    ·cases hf
   obtain ⟨fs,hfs,hfd⟩:=hdesc
   cases htj:ti P fd.type with
   | none=>simp [htj] at h
   | some j=>
    simp only [htj] at h
    have hu:(underlying t).run P w=.ok (.struct fs) w:=by rw [eH hti,hfs]
    cases x <;> try exact h.elim
    case agg cs=>
     cases hx with
     | agg _ vs hl h1 hc=>
      obtain ⟨r,y,hr,hy,hk⟩:=CY htj h hl h1 hc
      exact ⟨r,y,by simp [Instr.field,hu,hfd,asAgg,hr],hy,hk⟩
def qA (P:Program) (t:TypeId) (x ix:AV) (k:AV→Prop):Prop :=
 match ti P t with
 | some i=>
  match ix with
  | .v (.int _ n)=>
   match i.desc with
   | .string=>(match x with | .v (.string s)=>0≤n∧n < s.size∧k (.v (.int .u8 (s.get! n.toNat).toNat)) | _=>False)
   | .array len e=>
    match ti P e with
    | some j=>(match x with | .agg cs=>0≤n∧n < len∧q0 j cs (n.toNat * j.size) k | _=>False)
    | none=>False
   | _=>False
  | _=>False
 | none=>False
theorem get!_eq (s:ByteArray) (i:Nat) (h:i < s.size):s.get! i=s[i]:=by
 show s.data[i]! = s.data[i]
 rw [getElem!_pos s.data i h]
theorem FY {P:Program}{G:aL}{w:World}{t:TypeId}{x ix:AV}{v vi:Value}{k:AV→Prop}
  (h:qA P t x ix k) (hx:aR G w x v) (hi:aR G w ix vi):∃ r y,(Instr.index t v vi).run P w=.ok r w∧aR G w y r∧k y:=by
 unfold qA at h
 cases hti:ti P t with
 | none=>simp [hti] at h
 | some i=>
  simp only [hti] at h
  cases ix <;> try exact h.elim
  case v q=>
  cases q <;> try exact h.elim
  case int kk n=>
  cases hi
  simp only at h
  have hu:=eH hti w
  cases hd:i.desc <;> simp only [hd] at h <;> try exact h.elim
  case string=>
   rw [hd] at hu
   cases x <;> try exact h.elim
   case v q=>
   cases q <;> try exact h.elim
   case string s=>
   cases hx
   obtain ⟨h0,h1,h⟩:=h
   have hlt:n.toNat < s.size:=by omega
   refine ⟨_,_,?_,.v _ rfl,h⟩
   simp only [Instr.index,Sem.run_bind,asIntOf,Sem.run_pure,Result.andThen_ok,hu,h0,if_true,getElem?_pos s n.toNat hlt,get!_eq s _ hlt]
  case array len e=>
   rw [hd] at hu
   cases hte:ti P e with
   | none=>simp [hte] at h
   | some j=>
    simp only [hte] at h
    cases x <;> try exact h.elim
    case agg cs=>
     obtain ⟨h0,h1,h⟩:=h
     cases hx with
     | agg _ vs hl hone hc=>
      obtain ⟨r,y,hr,hy,hk⟩:=CY hte h hl hone hc
      exact ⟨r,y,by simp [Instr.index,hu,asIntOf,h0,h1,dL hte,hr],hy,hk⟩
def dF:Option AV→Int→Option Int
 | none,d=>some d
 | some (.v (.int _ n)),_=>some n
 | _,_=>none
def Tk.sub:Tk→Tk
 | .own o=>.own o
 | _=>.none
def Tk.isOwn:Tk→Bool
 | .own _=>true
 | _=>false
def p8 (P:Program) (t:TypeId) (x:AV) (lo hi mx:Option AV) (k:AV→Prop):Prop :=
 match ti P t with
 | some i=>
  match i.desc,x with
  | .string,.v (.string s)=>
   match mx,dF lo 0,dF hi s.size with
   | none,some l,some h=>0≤l∧l≤h∧h≤s.size∧k (.v (.string (s.extract l.toNat h.toNat)))
   | _,_,_=>False
  | .slice e,.sl rows tk=>
   match ti P e,dF lo 0,dF hi rows.length with
   | some j,some l,some h=>
    (∀ r ∈ rows,r.length=j.size)∧0≤l∧l≤h∧h≤rows.length ∧
    (match mx with
     | none=>k (.sl ((rows.take h.toNat).drop l.toNat) tk.sub)
     | some (.v (.int _ m))=>m=h∧hi.isSome=true∧(tk.isOwn=true→h=l)∧k (.sl ((rows.take h.toNat).drop l.toNat) .exact)
     | _=>False)
   | _,_,_=>False
  | .slice e,.v (.slice none 0 0)=>
   match ti P e,dF lo 0,dF hi 0,dF mx 0 with
   | some _,some l,some h,some m=>l=0∧h=0∧m=0∧(mx.isSome=true→hi.isSome=true)∧k (.v (.slice none 0 0))
   | _,_,_,_=>False
  | .array n e,.ptr o off=>
   match ti P e,mx,dF lo 0,dF hi n with
   | some j,none,some l,some h=>0≤l∧l≤h∧h≤n∧n≤maxLen∧k (.bsl o (off + l.toNat * j.size) (h - l).toNat)
   | _,_,_,_=>False
  | .slice e,.bsl o off len=>
   match ti P e,mx,dF lo 0,dF hi len with
   | some j,none,some l,some h=>0≤l∧l≤h∧h≤len∧k (.bsl o (off + l.toNat * j.size) (h - l).toNat)
   | _,_,_,_=>False
  | _,_=>False
 | none=>False
def yB (G:aL) (w:World) (x:Option AV) (v:Option Value):Prop :=
 match x,v with | none,none=>True | some x,some v=>aR G w x v | _,_=>False
theorem nG {G:aL}{w:World}{x:Option AV}{v:Option Value}{d n:Int} (hc:yB G w x v) (h:dF x d=some n) :
  (x=none∧v=none∧n=d) ∨ ∃ q,x=some (.v (.int q n))∧v=some (.int q n):=by
 cases x with
 | none=>
  cases v with
  | none=>simp only [dF,Option.some.injEq] at h; exact .inl ⟨rfl,rfl,h.symm⟩
  | some _=>exact hc.elim
 | some x=>
  cases v with
  | none=>exact hc.elim
  | some v=>
   cases x <;> try (simp [dF] at h; done)
   case v q=>
    cases q <;> simp only [dF,Option.some.injEq] at h <;> try (cases h; done)
    case int kk m=>
     subst h
     have hc':aR G w (.v (.int kk m)) v:=hc
     cases hc'
     exact .inr ⟨kk,rfl,rfl⟩
theorem lZ {P:Program}{w:World} (q:IntKind) (n:Int) (y:Nat) (c:BoundsCode) (h0:0≤n) (h1:n≤y):(Instr.sliceBound (.int q n) y c).run P w=.ok n.toNat w :=
 run_sliceBound w q n y c h0 h1
theorem nS {P:Program}{G:aL}{w:World}{lo hi:Option AV}{vlo vhi:Option Value}{l h:Int} (isS:Bool) (len cap:Nat) (hlen:len≤cap)
  (h1:yB G w lo vlo) (h2:yB G w hi vhi) (e1:dF lo 0=some l) (e2:dF hi len=some h) (h0:0≤l) (hlh:l≤h) (hh:h≤len) :
  (Instr.sliceBounds isS len cap vlo vhi none).run P w=.ok (l.toNat,h.toNat,cap) w:=by
 rcases nG h1 e1 with ⟨rfl,rfl,rfl⟩ | ⟨q1,rfl,rfl⟩ <;> rcases nG h2 e2 with ⟨rfl,rfl,rfl⟩ | ⟨q2,rfl,rfl⟩
 ·simp [Instr.sliceBounds]
 ·simp [Instr.sliceBounds,lZ q2 h cap _ (by omega) (by omega)]
 ·simp [Instr.sliceBounds,lZ q1 l len _ (by omega) (by omega)]
 ·simp [Instr.sliceBounds,lZ q2 h cap _ (by omega) (by omega),lZ q1 l h.toNat _ (by omega) (by omega)]
theorem Kw {P:Program}{G:aL}{w:World}{lo hi:Option AV}{vlo vhi:Option Value}{l h:Int} (isS:Bool) (len cap:Nat) (hlen:len≤cap)
  (h1:yB G w lo vlo) (h2:yB G w hi vhi) (e1:dF lo 0=some l) (e2:dF hi len=some h) (h0:0≤l) (hlh:l≤h) (hh:h≤len) (hs:hi.isSome=true) (q:IntKind) :
  (Instr.sliceBounds isS len cap vlo vhi (some (.int q h))).run P w=.ok (l.toNat,h.toNat,h.toNat) w:=by
 rcases nG h2 e2 with ⟨rfl,rfl,rfl⟩ | ⟨q2,rfl,rfl⟩
 ·cases hs
 ·rcases nG h1 e1 with ⟨rfl,rfl,rfl⟩ | ⟨q1,rfl,rfl⟩
  ·simp [Instr.sliceBounds,lZ q h cap _ (by omega) (by omega),lZ q2 h h.toNat _ (by omega) (by omega)]
  ·simp [Instr.sliceBounds,lZ q h cap _ (by omega) (by omega),lZ q2 h h.toNat _ (by omega) (by omega),lZ q1 l h.toNat _ (by omega) (by omega)]
theorem hU.sub {w:World}{i1 imm:Nat→Nat→Prop}{b st sz:Nat}{rows:List (List D)} (h:hU w i1 imm b st sz rows) (l n:Nat) :
  hU w i1 imm b (st + l * sz) sz ((rows.take n).drop l):=by
 have key:∀ (i:Nat) (r:List D),((rows.take n).drop l)[i]?=some r→rows[l + i]?=some r:=by
  intro i r hr
  rw [List.getElem?_drop,List.getElem?_take] at hr
  split at hr
  ·exact hr
  ·cases hr
 refine ⟨fun i r hr=>h.1 _ r (key i r hr),fun i j r d hr hd=>?_⟩
 have:=h.2 (l + i) j r d (key i r hr) hd
 rwa [show st + (l + i) * sz + j=st + l * sz + i * sz + j from by rw [Nat.add_mul]; omega] at this
theorem SlC.sub {w:World}{i1 imm:Nat→Nat→Prop}{rows:List (List D)}{a:Option Addr}{n c sz:Nat} (h:SlC w i1 imm rows (.slice a n c)) (hs:∀ r ∈ rows,r.length=sz)
  (l hh m:Nat) (h1:l≤hh) (h2:hh≤rows.length) (hm:hh≤m) (hmc:m≤c) :
  SlC w i1 imm ((rows.take hh).drop l) (.slice (if m=l then a else a.map (·.add (l * sz))) (hh - l) (m - l)):=by
 obtain ⟨a',c',he,hn,hc,hor⟩:=h
 cases he
 have hlen:((rows.take hh).drop l).length=hh - l:=by simp; omega
 rw [← hlen]
 refine ⟨_,_,rfl,by rw [hlen]; omega,by omega,?_⟩
 by_cases hz:hh=l
 ·left
  apply List.eq_nil_of_length_eq_zero; omega
 ·rcases hor with rfl | ⟨b,st,sz',rfl,hr⟩
  ·left; simp
  ·right
   have hsz:sz'=sz:=by
    have hlt:0 < rows.length:=by omega
    have h3:=hr.1 0 _ (List.getElem?_eq_getElem hlt)
    rw [← h3]; exact hs _ (List.getElem_mem hlt)
   subst hsz
   refine ⟨b,st + l * sz',sz',?_,hr.sub l hh⟩
   rw [if_neg (by omega)]
   simp [Addr.add_mk]
theorem Ds (G:aL) {t t':Tk} (h:t.isOwn=false) (h':t'.isOwn=false):G.im t=G.im t':=by
 cases t <;> cases t' <;> first | rfl | (simp [Tk.isOwn] at h; done) | (simp [Tk.isOwn] at h'; done)
theorem zH.sub {G:aL}{rows:List (List D)}{a:Option Addr}{c sz:Nat}{t:Tk} (h:zH G rows.length (.slice a rows.length c) t) (l hh:Nat) (h1:l≤hh) (h2:hh≤rows.length) (hc:rows.length≤c) (_hs:0 < sz ∨ True) :
  zH G ((rows.take hh).drop l).length (.slice (if c=l then a else a.map (·.add (l * sz))) (hh - l) (c - l)) t.sub:=by
 have hlen:((rows.take hh).drop l).length=hh - l:=by simp; omega
 have same:hh - l=rows.length→(Value.slice (if c=l then a else a.map (·.add (l * sz))) (hh - l) (c - l))=.slice a rows.length c:=by
  intro he
  have hl:l=0:=by omega
  subst hl
  have:hh=rows.length:=by omega
  subst this
  split
  ·rename_i h; simp
  ·cases a <;> simp [Addr.add]
 cases t with
 | none=>trivial
 | exact=>trivial
 | own o=>
  rw [hlen]
  rcases h with ⟨l',k1,k2,k3⟩ | ⟨b,l',c',sz',ex,k1,k2,k3⟩
  ·refine .inl ⟨l',k1,by omega,fun he=>?_⟩
   rw [same (by omega)]
   obtain ⟨a',ha',hz⟩:=k3 (by omega)
   rw [ha',show hh - l=rows.length from by omega]
   exact ⟨a',rfl,hz⟩
  ·refine .inr ⟨b,l',c',sz',ex,k1,by omega,fun he=>?_⟩
   rw [same (by omega)]
   exact k3 (by omega)
theorem Fp {P:Program}{G:aL}{w:World}{t:TypeId}{x:AV}{lo hi mx:Option AV}{v:Value}{vlo vhi vmx:Option Value}{k:AV→Prop}
  (h:p8 P t x lo hi mx k) (hx:aR G w x v) (hlo:yB G w lo vlo) (hhi:yB G w hi vhi) (hmx:yB G w mx vmx) :
  ∃ r y,(Instr.sliceAt t v vlo vhi vmx).run P w=.ok r w∧aR G w y r∧k y:=by
 unfold p8 at h
 cases hti:ti P t with
 | none=>simp [hti] at h
 | some i=>
  simp only [hti] at h
  have hu:=eH hti w
  split at h
  ·
   rename_i s hd
   rw [hd] at hu
   cases hx
   split at h
   ·rename_i l hh e1 e2
    obtain ⟨h0,h1,h2,hk⟩:=h
    cases vmx with
    | some _=>exact hmx.elim
    | none=>
     refine ⟨_,_,?_,.v _ rfl,hk⟩
     simp [Instr.sliceAt,Instr.slice,hu,nS (P:=P) false s.size s.size (Nat.le_refl _) hlo hhi e1 e2 h0 h1 h2]
   ·exact h.elim
  ·
   rename_i e rows tk hd
   rw [hd] at hu
   split at h
   ·rename_i j l hh htj e1 e2
    obtain ⟨hs,h0,h1,h2,hk⟩:=h
    cases hx with
    | sl _ _ _ hdc htk=>
     obtain ⟨a,c,rfl,hn,hc,hor⟩:=hdc
     have hdc:SlC w (G.im tk) G.imm rows (.slice a rows.length c):=⟨a,c,rfl,hn,hc,hor⟩
     split at hk
     ·cases vmx with
      | some _=>exact hmx.elim
      | none=>
       refine ⟨.slice (if c=l.toNat then a else a.map (·.add (l.toNat * j.size))) (hh.toNat - l.toNat) (c - l.toNat),_,?_,.sl _ tk.sub _ ?_ (zH.sub (sz:=j.size) htk l.toNat hh.toNat (by omega) (by omega) hn (.inr trivial)),hk⟩
       ·simp [Instr.sliceAt,Instr.slice,hu,nS (P:=P) true rows.length c hn hlo hhi e1 e2 h0 h1 h2,dL htj]
       ·have:=SlC.sub hdc hs l.toNat hh.toNat c (by omega) (by omega) (by omega) (Nat.le_refl _)
        cases tk with
        | none=>exact this
        | exact=>exact this
        | own o=>exact this
     ·rename_i q m
      obtain ⟨rfl,hsome,hown,hk⟩:=hk
      cases vmx with
      | none=>exact hmx.elim
      | some vm=>
       have hmx':aR G w (.v (.int q m)) vm:=hmx
       cases hmx'
       refine ⟨.slice (if m.toNat=l.toNat then a else a.map (·.add (l.toNat * j.size))) (m.toNat - l.toNat) (m.toNat - l.toNat),_,?_,.sl _ .exact _ ?_ ?_,hk⟩
       ·simp [Instr.sliceAt,Instr.slice,hu,Kw (P:=P) true rows.length c hn hlo hhi e1 e2 h0 h1 h2 hsome q,dL htj]
       ·have:=SlC.sub hdc hs l.toNat m.toNat m.toNat (by omega) (by omega) (Nat.le_refl _) (by omega)
        by_cases ho:tk.isOwn=true
        ·have hml:=hown ho
         subst hml
         have h0':((rows.take m.toNat).drop m.toNat)=[]:=by apply List.eq_nil_of_length_eq_zero; simp
         rw [h0'] at this ⊢
         rw [Nat.sub_self] at this ⊢
         exact SlC.nil _ _ (by simp [maxLen])
        ·rw [Ds G (t:=.exact) (t':=tk) rfl (by simpa using ho)]
         exact this
       ·have hl:((rows.take m.toNat).drop l.toNat).length=m.toNat - l.toNat:=by simp; omega
        rw [hl]; exact ⟨_,rfl⟩
     ·exact hk.elim
   ·exact h.elim
  ·
   rename_i e hd
   rw [hd] at hu
   cases hx
   split at h
   ·rename_i j l hh m htj e1 e2 e3
    obtain ⟨rfl,rfl,rfl,himp,hk⟩:=h
    have hsz:=dL htj w
    refine ⟨_,_,?_,.v _ rfl,hk⟩
    rcases nG hlo e1 with ⟨rfl,rfl,_⟩ | ⟨q1,rfl,rfl⟩ <;> rcases nG hhi e2 with ⟨rfl,rfl,_⟩ | ⟨q2,rfl,rfl⟩ <;> rcases nG hmx e3 with ⟨rfl,rfl,_⟩ | ⟨q3,rfl,rfl⟩ <;>
     first
     | (simp at himp; done)
     | (simp [Instr.sliceAt,Instr.slice,hu,Instr.sliceBounds,Instr.sliceBound,asIntOf,hsz]; done)
   ·exact h.elim
  ·
   rename_i n e o off hd
   rw [hd] at hu
   split at h
   ·rename_i j l hh htj e1 e2
    obtain ⟨h0,h1,h2,h3,hk⟩:=h
    cases vmx with
    | some _=>exact hmx.elim
    | none=>
     cases hx with
     | ptr _ _ b hb=>
      by_cases hne:n=l.toNat
      ·have hz:(hh - l).toNat=0:=by omega
       rw [hz] at hk
       refine ⟨.slice (some ⟨b,off,none⟩) 0 (n - l.toNat),_,?_,.bsl0 o _ _ _ (by omega),hk⟩
       simp [Instr.sliceAt,hu,Instr.sureAddr,nS (P:=P) false n n (Nat.le_refl _) hlo hhi e1 e2 h0 h1 h2,dL htj,← hne]
       omega
      ·refine ⟨.slice (some ⟨b,off + l.toNat * j.size,none⟩) (hh - l).toNat (n - l.toNat),_,?_,.bsl o _ _ _ b hb (by omega) (by omega),hk⟩
       simp [Instr.sliceAt,hu,Instr.sureAddr,nS (P:=P) false n n (Nat.le_refl _) hlo hhi e1 e2 h0 h1 h2,dL htj,hne,Addr.add_mk]
       omega
   ·exact h.elim
  ·rename_i e o off len hd
   rw [hd] at hu
   split at h
   ·rename_i j l hh htj e1 e2
    obtain ⟨h0,h1,h2,hk⟩:=h
    cases vmx with
    | some _=>exact hmx.elim
    | none=>
     cases hx with
     | bsl0 _ _ cap a h2'=>
      have hl0:l=0:=by omega
      have hh0:hh=0:=by omega
      subst hl0; subst hh0
      refine ⟨.slice (if cap=0 then a else a.map (·.add (0 * j.size))) 0 cap,_,?_,.bsl0 o _ _ _ h2',hk⟩
      simp [Instr.sliceAt,Instr.slice,hu,nS (P:=P) true 0 cap (Nat.zero_le _) hlo hhi e1 e2 h0 h1 h2,dL htj]
     | bsl _ _ _ cap b hb k1 k2=>
      by_cases hne:cap=l.toNat
      ·have hz:(hh - l).toNat=0:=by omega
       rw [hz] at hk
       refine ⟨.slice (some ⟨b,off,none⟩) 0 (cap - l.toNat),_,?_,.bsl0 o _ _ _ (by omega),hk⟩
       simp [Instr.sliceAt,Instr.slice,hu,nS (P:=P) true len cap k1 hlo hhi e1 e2 h0 h1 h2,dL htj,← hne]
       omega
      ·refine ⟨.slice (some ⟨b,off + l.toNat * j.size,none⟩) (hh - l).toNat (cap - l.toNat),_,?_,.bsl o _ _ _ b hb (by omega) (by omega),hk⟩
       simp [Instr.sliceAt,Instr.slice,hu,nS (P:=P) true len cap k1 hlo hhi e1 e2 h0 h1 h2,dL htj,hne,Addr.add_mk]
       omega
   ·exact h.elim
  ·exact h.elim
def i6:AV→Option (List AV)
 | .agg cs=>some cs
 | .any=>none
 | .tup _=>none
 | .cnd _ _=>none
 | x=>some [x]
theorem uD {G:aL}{w:World}{x:AV}{v:Value}{cs:List AV} (h:aR G w x v) (hc:i6 x=some cs) :
  ∃ vs:List Value,v.cells=vs.toArray∧vs.length=cs.length∧(∀ (i:Nat) (u:Value),vs[i]?=some u→u.oneCell'=true) ∧
   ∀ (i:Nat) (c:AV) (u:Value),cs[i]?=some c→vs[i]?=some u→aR G w c u:=by
 have single:∀ (y:AV) (u:Value),aR G w y u→u.oneCell'=true→u.cells=#[u] ∧
   (∀ (i:Nat) (z:Value),[u][i]?=some z→z.oneCell'=true)∧∀ (i:Nat) (c:AV) (z:Value),[y][i]?=some c→[u][i]?=some z→aR G w c z:=by
  intro y u hy ho
  refine ⟨?_,?_,?_⟩
  ·cases u <;> first | rfl | (simp [Value.oneCell'] at ho)
  ·intro i z hz
   cases i with
   | zero=>simp at hz; subst hz; exact ho
   | succ n=>simp at hz
  ·intro i c z h1 h2
   cases i with
   | zero=>simp at h1 h2; subst h1; subst h2; exact hy
   | succ n=>simp at h1
 cases h with
 | v _ hx=>cases hc; obtain ⟨h1,h2,h3⟩:=single _ _ (aR.v v hx) hx; exact ⟨[v],h1,rfl,h2,h3⟩
 | any=>cases hc
 | cnd=>cases hc
 | sl rows t _ hd ht=>cases hc; obtain ⟨h1,h2,h3⟩:=single _ _ (.sl rows t v hd ht) hd.one; exact ⟨[v],h1,rfl,h2,h3⟩
 | agg cs vs hl h1 h2=>cases hc; exact ⟨vs,rfl,hl,h1,h2⟩
 | tup=>cases hc
 | ptr o off b hb=>cases hc; obtain ⟨h1,h2,h3⟩:=single _ _ (aR.ptr o off b hb) rfl; exact ⟨[_],h1,rfl,h2,h3⟩
 | ep rows i off t b st sz hr c ht=>cases hc; obtain ⟨h1,h2,h3⟩:=single _ _ (aR.ep rows i off t b st sz hr c ht) rfl; exact ⟨[_],h1,rfl,h2,h3⟩
 | bsl o off len cap b hb e1 e2=>cases hc; obtain ⟨h1,h2,h3⟩:=single _ _ (aR.bsl o off len cap b hb e1 e2) rfl; exact ⟨[_],h1,rfl,h2,h3⟩
 | bsl0 o off cap a e2=>cases hc; obtain ⟨h1,h2,h3⟩:=single _ _ (aR.bsl0 (G:=G) (w:=w) o off cap a e2) rfl; exact ⟨[_],h1,rfl,h2,h3⟩
 | map o b hb=>cases hc; obtain ⟨h1,h2,h3⟩:=single _ _ (aR.map o b hb) rfl; exact ⟨[_],h1,rfl,h2,h3⟩
 | fn f first cap vf vc e1 e2 e3 e4=>cases hc; obtain ⟨h1,h2,h3⟩:=single _ _ (aR.fn f first cap vf vc e1 e2 e3 e4) rfl; exact ⟨[_],h1,rfl,h2,h3⟩
def setFrom:List AV→Nat→List AV→List AV
 | cs,_,[]=>cs
 | cs,off,x :: xs=>setFrom (cs.set off x) (off + 1) xs
def gF:List Value→Nat→List Value→List Value
 | cs,_,[]=>cs
 | cs,off,x :: xs=>gF (cs.set off x) (off + 1) xs
theorem mW:∀ (xs cs:List AV) (off:Nat),(setFrom cs off xs).length=cs.length
 | [],_,_=>rfl
 | x :: xs,cs,off=>by simp only [setFrom]; rw [mW]; simp
theorem AH:∀ (xs cs:List Value) (off:Nat),(gF cs off xs).length=cs.length
 | [],_,_=>rfl
 | x :: xs,cs,off=>by simp only [gF]; rw [AH]; simp
def nK (vs:List Value):Prop:=∀ (i:Nat) (u:Value),vs[i]?=some u→u.oneCell'=true
theorem nK.set {vs:List Value} (h:nK vs) (d:Nat) {v:Value} (hv:v.oneCell'=true):nK (vs.set d v):=by
 intro i u hu
 rw [List.getElem?_set] at hu
 split at hu
 ·split at hu
  ·cases hu; exact hv
  ·cases hu
 ·exact h i u hu
theorem cQ.setFrom {G:aL}{w:World}:∀ {xs:List AV}{us:List Value}{cs:List AV}{vs:List Value} (off:Nat),cQ G w cs vs→nK vs→cQ G w xs us→nK us →
  cQ G w (setFrom cs off xs) (gF vs off us)∧nK (gF vs off us)
 | [],us,cs,vs,off,h,h1,hx,_=>by
  have:us=[]:=List.eq_nil_of_length_eq_zero (by simpa using hx.1)
  subst this
  exact ⟨h,h1⟩
 | x :: xs,us,cs,vs,off,h,h1,hx,hu=>by
  cases us with
  | nil=>have:=hx.1; simp at this
  | cons u us=>
   have hxu:aR G w x u:=hx.2 0 x u rfl rfl
   have huo:u.oneCell'=true:=hu 0 u rfl
   have hrest:cQ G w xs us:=⟨by have:=hx.1; simpa using this,fun i c v hc hv=>hx.2 (i + 1) c v (by simpa using hc) (by simpa using hv)⟩
   exact cQ.setFrom (off + 1) (h.set off hxu) (h1.set off huo) hrest (fun i v hv=>hu (i + 1) v (by simpa using hv))
theorem HM (off:Nat):∀ (us:List Value) (n:Nat) (cs:Array Value),
  ((us.zipIdx n).foldl (fun (cs:Array Value) (x:Value × Nat)=>cs.setIfInBounds (off + x.2) x.1) cs).toList=gF cs.toList (off + n) us
 | [],_,_=>rfl
 | u :: us,n,cs=>by
  simp only [List.zipIdx_cons,List.foldl_cons,gF]
  rw [HM off us (n + 1)]
  simp [Nat.add_assoc]
def jZ (place:Nat→Option (Nat × Nat)) (cs:List AV):List (Nat × AV)→Option (List AV)
 | []=>some cs
 | (j,x) :: rest=>
  match place j,i6 x with
  | some (off,size),some xs=>if xs.length=size∧off + size≤cs.length then jZ place (setFrom cs off xs) rest else none
  | _,_=>none
theorem xT {G:aL}{w:World}{place:Nat→Option (Nat × Nat)}:∀ {parts:List (Nat × AV)}{vparts:List (Nat × Value)}{cs:List AV}{vs:List Value}{out:List AV},
  parts.length=vparts.length→(∀ (i:Nat) (p:Nat × AV) (q:Nat × Value),parts[i]?=some p→vparts[i]?=some q→p.1=q.1∧aR G w p.2 q.2) →
  cQ G w cs vs→nK vs→jZ place cs parts=some out →
  ∃ res:List Value,Instr.fill place vs.toArray vparts=some res.toArray∧cQ G w out res∧nK res
 | [],vparts,cs,vs,out,hl,_,h,h1,hf=>by
  have:vparts=[]:=List.eq_nil_of_length_eq_zero (by simpa using hl.symm)
  subst this
  cases hf
  exact ⟨vs,rfl,h,h1⟩
 | (j,x) :: rest,vparts,cs,vs,out,hl,hp,h,h1,hf=>by
  cases vparts with
  | nil=>simp at hl
  | cons q vrest=>
   obtain ⟨j',u⟩:=q
   obtain ⟨he,hxu⟩:=hp 0 (j,x) (j',u) rfl rfl
   simp only at he hxu
   subst he
   simp only [jZ] at hf
   cases hpl:place j with
   | none=>simp [hpl] at hf
   | some os=>
    obtain ⟨off,size⟩:=os
    cases hcx:i6 x with
    | none=>simp [hpl,hcx] at hf
    | some xs=>
     simp only [hpl,hcx] at hf
     split at hf
     ·rename_i hcond
      obtain ⟨us,hus,hlen,hone,hconc⟩:=uD hxu hcx
      obtain ⟨k1,k2⟩:=cQ.setFrom off h h1 ⟨hlen,hconc⟩ hone
      obtain ⟨res,hr,hr2,hr3⟩:=xT (place:=place) (parts:=rest) (vparts:=vrest) (by simpa using hl)
       (fun i p q hp' hq'=>hp (i + 1) p q (by simpa using hp') (by simpa using hq')) k1 k2 hf
      refine ⟨res,?_,hr2,hr3⟩
      have hvl:=h.1
      simp only [Instr.fill,hpl,hus,List.size_toArray,hlen]
      have e0:=HM off us 0 vs.toArray
      have e2:(us.toArray.zipIdx.foldl (fun (cs:Array Value) (x:Value × Nat)=>cs.setIfInBounds (off + x.2) x.1) vs.toArray)=(gF vs off us).toArray:=by
       rw [← Array.foldl_toList]
       apply Array.ext'
       simpa using e0
      have hc1:decide (xs.length ≠ size)=false:=by simp only [decide_eq_false_iff_not]; omega
      have hc2:decide (off + xs.length > vs.length)=false:=by simp only [decide_eq_false_iff_not]; omega
      rw [hc1,hc2,e2,hr]
      rfl
     ·cases hf
def pW (P:Program) (i:TI) (j:Nat):Option (Nat × Nat) :=
 match i.desc with
 | .struct fs=>(fs[j]?).bind fun (f:Field)=>(ti P f.type).map fun x=>(f.offset,x.size)
 | .array _ e=>(ti P e).map fun x=>(j * x.size,x.size)
 | _=>none
def Ai (P:Program):List Field→Bool
 | []=>true
 | f :: fs=>(ti P f.type).isSome && Ai P fs
def BI (P:Program) (t:TypeId) (parts:List (Nat × AV)) (k:AV→Prop):Prop :=
 match ti P t with
 | some i=>
  (match i.desc with | .struct fs=>Ai P fs.toList=true | .array _ e=>(ti P e).isSome=true | _=>False) ∧
  (match jZ (pW P i) (i.zero.map .v) parts with
  | some cs=>k (.agg cs)
  | none=>False)
 | none=>False
theorem J2 {G:aL}{w:World}{P:Program}{t:TypeId}{i:TI} (h:ti P t=some i):cQ G w (i.zero.map .v) i.zero∧nK i.zero:=by
 obtain ⟨_,f,z,_,_,_,_,_,_,ho⟩:=b5 h
 refine ⟨⟨by simp,fun j x v hx hv=>?_⟩,fun j u hu=>ho u (List.mem_of_getElem? hu)⟩
 rw [List.getElem?_map,hv] at hx
 cases hx
 exact .v v (ho v (List.mem_of_getElem? hv))
theorem Fj {P:Program}{w:World}:∀ (fs:List Field),Ai P fs=true →
  ∃ ps:List (Nat × Nat),(fs.mapM (fun f=>do pure (f.offset,← sizeOf f.type):Field→Sem (Nat × Nat))).run P w=.ok ps w ∧
   ∀ j:Nat,ps[j]?=(fs[j]?).bind fun (f:Field)=>(ti P f.type).map fun x=>(f.offset,x.size)
 | [],_=>⟨[],by simp,by simp⟩
 | f :: fs,h=>by
  simp only [Ai,Bool.and_eq_true] at h
  obtain ⟨ps,hp,hq⟩:=Fj (w:=w) fs h.2
  obtain ⟨x,hx⟩:=Option.isSome_iff_exists.1 h.1
  refine ⟨(f.offset,x.size) :: ps,?_,?_⟩
  ·simp only [List.mapM_cons,Sem.run_bind,dL hx,Result.andThen_ok,Sem.run_pure,hp]
  ·intro j
   cases j with
   | zero=>simp [hx]
   | succ j=>simpa using hq j
theorem Fk {P:Program}{G:aL}{w:World}{t:TypeId}{parts:List (Nat × AV)}{vparts:List (Nat × Value)}{k:AV→Prop}
  (h:BI P t parts k) (hl:parts.length=vparts.length)
  (hp:∀ (i:Nat) (p:Nat × AV) (q:Nat × Value),parts[i]?=some p→vparts[i]?=some q→p.1=q.1∧aR G w p.2 q.2) :
  ∃ r y,(Instr.build t vparts.toArray).run P w=.ok r w∧aR G w y r∧k y:=by
 unfold BI at h
 cases hti:ti P t with
 | none=>simp [hti] at h
 | some i=>
  simp only [hti] at h
  obtain ⟨hall,h⟩:=h
  cases hfill:jZ (pW P i) (i.zero.map .v) parts with
  | none=>simp [hfill] at h
  | some cs=>
   simp only [hfill] at h
   obtain ⟨z1,z2⟩:=J2 (G:=G) (w:=w) hti
   obtain ⟨res,hr,hr2,hr3⟩:=xT hl hp z1 z2 hfill
   obtain ⟨z,hz,hzc⟩:=ET hti w
   have hu:=eH hti w
   refine ⟨.agg res.toArray,.agg cs,?_,.agg cs res hr2.1 hr3 hr2.2,h⟩
   cases hd:i.desc <;> simp only [hd] at hall <;> try exact hall.elim
   case struct fs=>
    rw [hd] at hu
    obtain ⟨ps,hps,hq⟩:=Fj (w:=w) fs.toList hall
    have hps':(fs.mapM (fun f=>do pure (f.offset,← sizeOf f.type):Field→Sem (Nat × Nat))).run P w=.ok ps.toArray w:=by
     rw [← Array.toArray_toList (xs:=fs)]
     rw [List.mapM_toArray]
     change Sem.run P (do let a ← List.mapM (fun f:Field=>do let s ← sizeOf f.type; pure (f.offset,s)) fs.toList; pure a.toArray) w=_
     rw [Sem.run_bind,hps]
     rfl
    have hfun:(fun j=>ps.toArray[j]?)=pW P i:=by
     funext j
     simp only [pW,hd,List.getElem?_toArray,hq]
     simp
    rw [← hfun] at hr
    simp only [Instr.build,Sem.run_bind,hz,Result.andThen_ok,hu,hps',hzc]
    rw [hr]
    simp
   case array n e=>
    rw [hd] at hu
    obtain ⟨x,hx⟩:=Option.isSome_iff_exists.1 hall
    have hfun:(fun j=>some (j * x.size,x.size))=pW P i:=by
     funext j
     simp [pW,hd,hx]
    rw [← hfun] at hr
    simp only [Instr.build,Sem.run_bind,hz,Result.andThen_ok,hu,dL hx,hzc]
    rw [hr]
    simp
def Ar (x:AV) (i:Nat) (k:AV→Prop):Prop :=
 match x with
 | .tup cs=>i < cs.length∧k (cs.getD i .any)
 | _=>False
theorem Dt {P:Program}{G:aL}{w:World}{i:Nat}{x:AV}{v:Value}{k:AV→Prop}
  (h:Ar x i k) (hx:aR G w x v):∃ r y,(Instr.extract v i).run P w=.ok r w∧aR G w y r∧k y:=by
 cases x <;> try exact h.elim
 case tup cs=>
  obtain ⟨hi,hk⟩:=h
  cases hx with
  | tup _ vs hl hc=>
   have hi':i < vs.length:=by omega
   refine ⟨vs[i],cs[i],by simp [Instr.extract,hi'],hc i _ _ (List.getElem?_eq_getElem hi) (List.getElem?_eq_getElem hi'),?_⟩
   simpa [List.getD_eq_getElem?_getD,List.getElem?_eq_getElem hi] using hk
def PN (op:UnOp) (x:AV) (k:AV→Prop):Prop :=
 match op,x with
 | .not,.v (.bool b)=>k (.v (.bool (!b)))
 | .neg,.v (.int q n)=>k (.v (.int q (q.wrap (0 - n))))
 | .xor,.v (.int q n)=>k (.v (.int q (q.wrap (BitVec.ofInt q.bits (if q.signed then -1 else q.max) ^^^ BitVec.ofInt q.bits n).toNat)))
 | _,_=>False
theorem Ml {P:Program}{G:aL}{w:World}{op:UnOp}{x:AV}{v:Value}{k:AV→Prop}
  (h:PN op x k) (hx:aR G w x v):∃ r y,(Op.unary op v).run P w=.ok r w∧aR G w y r∧k y:=by
 unfold PN at h
 split at h
 ·cases hx; exact ⟨_,_,rfl,.v _ rfl,h⟩
 ·cases hx; exact ⟨_,_,rfl,.v _ rfl,h⟩
 ·cases hx; exact ⟨_,_,rfl,.v _ rfl,h⟩
 ·exact h.elim
def EM:List D→Option UInt8
 | [.v (.int .u8 n)]=>some (UInt8.ofNat n.toNat)
 | _=>none
def rL:List (List D)→Option (List UInt8)
 | []=>some []
 | r :: rs=>match EM r,rL rs with | some b,some bs=>some (b :: bs) | _,_=>none
def qH (l:List UInt8):List (List D):=l.map fun b=>[.v (.int .u8 (b.toNat:Int))]
def zB (P:Program) (src dst:TypeId) (x:AV) (k:AV→Prop):Prop :=
 match ti P src,ti P dst with
 | some i,some j=>
  match j.desc,x with
  | .int q,.v (.int _ n)=>k (.v (.int q (q.wrap n)))
  | .string,.v (.string s)=>k (.v (.string s))
  | .string,.sl rows _=>
   match i.desc with
   | .slice e=>
    match ti P e,rL rows with
    | some ei,some bs=>ei.desc=.int .u8∧k (.v (.string ⟨bs.toArray⟩))
    | _,_=>False
   | _=>False
  | .string,.v (.slice none 0 0)=>
   match i.desc with
   | .slice e=>(ti P e).map TI.desc=some (.int .u8)∧k (.v (.string ⟨#[]⟩))
   | _=>False
  | _,_=>False
 | _,_=>False
theorem G6 {w:World}{i1 imm:Nat→Nat→Prop}:∀ (rows:List (List D)) (bs:List UInt8) (b st sz:Nat),rL rows=some bs→hU w i1 imm b st sz rows →
  ∃ ns:List Int,ns.length=rows.length∧(ns.map fun n=>UInt8.ofNat n.toNat)=bs∧∀ (j:Nat) (n:Int),ns[j]?=some n→w.cell? ⟨b,st + j,none⟩=some (.int .u8 n)
 | [],bs,b,st,sz,hb,_=>by cases hb; exact ⟨[],rfl,rfl,by simp⟩
 | r :: rs,bs,b,st,sz,hb,hr=>by
  simp only [rL] at hb
  cases h1:EM r with
  | none=>simp [h1] at hb
  | some c=>
   cases h2:rL rs with
   | none=>simp [h1,h2] at hb
   | some cs=>
    simp only [h1,h2,Option.some.injEq] at hb
    subst hb
    have hrn:∃ n,r=[.v (.int .u8 n)]∧c=UInt8.ofNat n.toNat:=by
     unfold EM at h1
     split at h1
     ·cases h1; exact ⟨_,rfl,rfl⟩
     ·cases h1
    obtain ⟨n,rfl,rfl⟩:=hrn
    have hsz:sz=1:=by have:=hr.1 0 _ rfl; simpa using this.symm
    subst hsz
    have hrest:hU w i1 imm b (st + 1) 1 rs:=by
     have:=hr.sub 1 (rs.length + 1)
     simpa [List.take_of_length_le] using this
    obtain ⟨ns,e1,e2,e3⟩:=G6 rs cs b (st + 1) 1 h2 hrest
    refine ⟨n :: ns,by simp [e1],by simp [e2],?_⟩
    intro j m hj
    cases j with
    | zero=>
     simp only [List.getElem?_cons_zero,Option.some.injEq] at hj
     subst hj
     obtain ⟨x,hx,_,hc⟩:=hr.2 0 0 _ _ rfl rfl
     cases hc
     simpa using hx
    | succ j=>
     simp only [List.getElem?_cons_succ] at hj
     have:=e3 j m hj
     rwa [show st + (j + 1)=st + 1 + j from by omega]
theorem PM {P:Program}{G:aL}{w:World}{src dst:TypeId}{x:AV}{v:Value}{k:AV→Prop}
  (h:zB P src dst x k) (hx:aR G w x v):∃ r y,(convert src dst v).run P w=.ok r w∧aR G w y r∧k y:=by
 unfold zB at h
 split at h
 ·rename_i i j hi hj
  have hui:=eH hi w
  have huj:=eH hj w
  have pi:=(b5 hi).1
  have pj:=(b5 hj).1
  split at h
  ·rename_i q _ n hd
   cases hx
   rw [hd] at huj
   exact ⟨_,_,by simp [convert,hui,huj,Conv.intToInt],.v _ rfl,h⟩
  ·rename_i s hd
   cases hx
   rw [hd] at huj
   refine ⟨.string s,_,?_,.v _ rfl,h⟩
   simp only [convert,Sem.run_bind,hui,huj,Result.andThen_ok]
   cases i.desc <;> rfl
  ·rename_i rows tk hd
   split at h
   ·rename_i e hde
    split at h
    ·rename_i ei bs he hbs
     obtain ⟨h8,hk⟩:=h
     have pe:=(b5 he).1
     rw [hde] at pi; rw [hd] at pj; rw [h8] at pe
     refine ⟨.string ⟨bs.toArray⟩,_,?_,.v _ rfl,hk⟩
     cases hx with
     | sl _ _ _ hdc _=>
      obtain ⟨a,c,rfl,hn,hc,hor⟩:=hdc
      rcases hor with rfl | ⟨b,st,sz,rfl,hr⟩
      ·cases hbs
       rw [run_convert_bytes_string w src dst e _ _ c pi pe pj]
       cases a with
       | none=>simp [Conv.bytesToString]; rfl
       | some a=>
        rw [show ([]:List (List D)).length=0 from rfl,run_bytesToString w a 0 c [] (by simp [loadCells,loadCellsFrom])]
        rfl
      ·obtain ⟨ns,e1,e2,e3⟩:=G6 rows bs b st sz hbs hr
       have:=run_convert_bytes_arg (P:=P) w src e pi pe b st rows.length c ns e1 (by
        intro i hi'
        have hlt:i < ns.length:=by omega
        have:=e3 i ns[i] (List.getElem?_eq_getElem hlt)
        rw [this]; simp [List.getD_eq_getElem?_getD,List.getElem?_eq_getElem hlt]) dst pj
       rw [this,← e2]; rfl
    ·exact h.elim
   ·exact h.elim
  ·rename_i hd
   split at h
   ·rename_i e hde
    obtain ⟨h8,hk⟩:=h
    cases hx
    cases he:ti P e with
    | none=>simp [he] at h8
    | some ei=>
     simp only [he,Option.map_some,Option.some.injEq] at h8
     have pe:=(b5 he).1
     rw [hde] at pi; rw [hd] at pj; rw [h8] at pe
     exact ⟨_,_,run_convert_bytes_nil w src e pi pe 0 0 dst pj,.v _ rfl,hk⟩
   ·exact h.elim
  ·exact h.elim
 ·exact h.elim
def KP (P:Program) (t:TypeId) (cs:List AV) (off:Nat):Option AV :=
 match ti P t with
 | some j=>if off + j.size≤cs.length then (if j.isAgg then some (.agg ((cs.drop off).take j.size)) else if 0 < j.size then some (cs.getD off .any) else none) else none
 | none=>none
def Hx (P:Program) (eq:TypeId→AV→AV→Option Bool) (xs ys:List AV):List Field→Option Bool
 | []=>some true
 | f :: fs=>
  if f.name = "_" then Hx P eq xs ys fs else
  match KP P f.type xs f.offset,KP P f.type ys f.offset with
  | some a,some b=>
   match eq f.type a b,Hx P eq xs ys fs with
   | some r,some s=>some (r && s)
   | _,_=>none
  | _,_=>none
def aeq (P:Program):Nat→TypeId→AV→AV→Option Bool
 | 0,_,_,_=>none
 | n + 1,t,x,y=>
  match ti P t with
  | some i=>
   match i.desc,x,y with
   | .bool,.v (.bool a),.v (.bool b)=>some (a == b)
   | .int _,.v (.int q a),.v (.int q' b)=>if q=q' then some (decide (a=b)) else none
   | .string,.v (.string a),.v (.string b)=>some (decide (a=b))
   | .struct fs,.agg xs,.agg ys=>if P.stoodInHeld t=true then none else Hx P (aeq P n) xs ys fs.toList
   | _,_,_=>none
  | none=>none
theorem FI {P:Program}{G:aL}{w:World}{t:TypeId}{cs:List AV}{vs:List Value}{off:Nat}{y:AV}
  (h:KP P t cs off=some y) (hl:vs.length=cs.length) (h1:∀ (i:Nat) (v:Value),vs[i]?=some v→v.oneCell'=true)
  (hc:∀ (i:Nat) (c:AV) (v:Value),cs[i]?=some c→vs[i]?=some v→aR G w c v) :
  ∃ r,(part t vs.toArray off).run P w=.ok r w∧aR G w y r:=by
 unfold KP at h
 split at h
 ·rename_i j hj
  have hp:q0 j cs off (fun z=>z=y):=by
   unfold q0
   split at h
   ·rename_i hle
    refine ⟨hle,?_⟩
    split at h
    ·rename_i ha; rw [if_pos ha]; exact Option.some.inj h
    ·rename_i ha
     rw [if_neg ha]
     split at h
     ·rename_i h0; exact ⟨h0,Option.some.inj h⟩
     ·cases h
   ·cases h
  obtain ⟨r,z,hr,hz,rfl⟩:=CY hj hp hl h1 hc
  exact ⟨r,hr,hz⟩
 ·cases h
theorem AR {P:Program}{G:aL}{w:World}{d:Nat}{eq:TypeId→AV→AV→Option Bool}
  (heq:∀ t x y b u v,eq t x y=some b→aR G w x u→aR G w y v→(Op.equalIn d t u v).run P w=.ok b w)
  {xs ys:List AV}{us vs:List Value} (hx1:us.length=xs.length) (hx2:nK us) (hx3:∀ (i:Nat) (c:AV) (v:Value),xs[i]?=some c→us[i]?=some v→aR G w c v)
  (hy1:vs.length=ys.length) (hy2:nK vs) (hy3:∀ (i:Nat) (c:AV) (v:Value),ys[i]?=some c→vs[i]?=some v→aR G w c v) :
  ∀ (fs:List Field) (b:Bool),Hx P eq xs ys fs=some b→(Op.eqFields d us.toArray vs.toArray fs).run P w=.ok b w
 | [],b,h=>by cases h; rfl
 | f :: fs,b,h=>by
  simp only [Hx] at h
  simp only [Op.eqFields]
  split at h
  ·rename_i hn
   rw [if_neg (by simpa using hn)]
   exact AR heq hx1 hx2 hx3 hy1 hy2 hy3 fs b h
  ·rename_i hn
   rw [if_pos hn]
   split at h
   ·rename_i a c ha hc
    obtain ⟨u,hu,hau⟩:=FI ha hx1 hx2 hx3
    obtain ⟨v,hv,hcv⟩:=FI hc hy1 hy2 hy3
    split at h
    ·rename_i r s hr hs
     have e1:=heq _ _ _ _ _ _ hr hau hcv
     have e2:=AR heq hx1 hx2 hx3 hy1 hy2 hy3 fs s hs
     cases h
     simp only [Sem.run_bind,hu,hv,e1,Result.andThen_ok,Sem.run_ite]
     cases r
     ·simp
     ·simp [e2]
    ·cases h
   ·cases h
theorem J7 {P:Program}{G:aL}{w:World}:∀ (n:Nat) (t:TypeId) (x y:AV) (b:Bool) (u v:Value) (m:Nat),n≤m→aeq P n t x y=some b→aR G w x u→aR G w y v →
  (Op.equalIn m t u v).run P w=.ok b w
 | 0,_,_,_,_,_,_,_,_,h,_,_=>by cases h
 | n + 1,t,x,y,b,u,v,m,hm,h,hx,hy=>by
  obtain ⟨m,rfl⟩:∃ m',m=m' + 1:=⟨m - 1,by omega⟩
  simp only [aeq] at h
  split at h
  ·rename_i i hi
   have hp:=(b5 hi).1
   split at h
   ·rename_i a c hd
    cases hx; cases hy; cases h
    rw [hd] at hp
    exact run_equalIn_bool' w m t a c hp
   ·rename_i q a q' c hd
    split at h
    ·rename_i hq
     subst hq
     cases hx; cases hy; cases h
     rw [hd] at hp
     rw [run_equalIn_int w m t q _ a c hp]; rfl
    ·cases h
   ·rename_i a c hd
    cases hx; cases hy; cases h
    rw [hd] at hp
    rw [run_equalIn_string w m t a c hp,CK]
   ·rename_i fs xs ys hd
    split at h
    ·cases h
    ·rename_i hst
     rw [hd] at hp
     have hf:P.fieldsOf t=fs:=by simp [Program.fieldsOf,hp]
     cases hx with
     | agg _ us h1 h2 h3=>
      cases hy with
      | agg _ vs k1 k2 k3=>
       rw [run_equalIn_struct w m t _ _ (by rw [hf]; exact hp) (by simpa using hst),hf]
       exact AR (fun t x y b u v h hx hy=>J7 n t x y b u v m (by omega) h hx hy) h1 h2 h3 k1 k2 k3 _ _ h
   ·cases h
  ·cases h
def HA:TypeDesc→Bool
 | .slice _=>true
 | _=>false
def Ax (P:Program) (op:BinOp) (t:TypeId) (x y:AV) (k:AV→Prop):Prop :=
 match x,y with
 | .v (.bool a),.v (.bool b)=>P.underlying t=some .bool∧KY op a b (fun r=>k (.v r))
 | .v (.iface _ _),.v .nilIface=>P.underlying t=some (.interface #[])∧op=.eql∧k (.v (.bool false))
 | .v .nilIface,.v .nilIface=>P.underlying t=some (.interface #[])∧op=.eql∧k (.v (.bool true))
 | .v a,.v b=>Bd op a b (fun r=>k (.v r))
 | .agg xs,.agg ys=>
  match aeq P 9 t (.agg xs) (.agg ys) with
  | some b=>P.eqGuardType P.depth t=false∧(match op with | .eql=>k (.v (.bool b)) | .neq=>k (.v (.bool (!b))) | _=>False)
  | none=>False
 | .sl rows _,.v (.slice none 0 0)=>
  match ti P t with
  | some i=>HA i.desc=true∧(match op with
   | .eql=>(rows=[]→k (.v (.bool true)))∧k (.v (.bool false))
   | .neq=>(rows=[]→k (.v (.bool false)))∧k (.v (.bool true))
   | _=>False)
  | none=>False
 | _,_=>False
theorem QE {P:Program}{w:World}{t:TypeId}{i:TI} (hi:ti P t=some i) (hd:HA i.desc=true) (a:Option Addr) (n c:Nat) :
  (Op.equal t (.slice a n c) (.slice none 0 0)).run P w=.ok a.isNone w:=by
 have hu:=eH hi w
 have gen:∀ m,(Op.equalIn (m + 1) t (.slice a n c) (.slice none 0 0)).run P w=.ok a.isNone w:=by
  intro m
  generalize i.desc=d at hu hd
  cases d <;> first | (simp [HA] at hd; done) | skip
  cases a <;> simp [Op.equalIn,hu]
 exact gen _
theorem JK {P:Program}{G:aL}{w:World}{op:BinOp}{t:TypeId}{x y:AV}{u v:Value}{k:AV→Prop} (ox oy:Operand)
  (h:Ax P op t x y k) (hx:aR G w x u) (hy:aR G w y v):∃ r z,(do eqGuard op t ox oy u v; binOp op t u v:Sem Value).run P w=.ok r w∧aR G w z r∧k z:=by
 unfold Ax at h
 split at h
 ·cases hx; cases hy
  obtain ⟨r,h1,h2,h3⟩:=Nu h.2 t h.1 ox oy w
  exact ⟨r,.v r,h1,.v r h2,h3⟩
 ·rename_i a b
  cases hx; cases hy
  obtain ⟨hu,rfl,hk⟩:=h
  have he:(Op.equal t (.iface a b) .nilIface).run P w=.ok false w:=by
   have:∀ m,(Op.equalIn (m + 1) t (.iface a b) .nilIface).run P w=.ok false w:=fun m=>by simp [Op.equalIn,run_underlying hu]
   exact this _
  exact ⟨.bool false,.v (.bool false),by simp [eqGuard,binOp,he],.v _ rfl,hk⟩
 ·cases hx; cases hy
  obtain ⟨hu,rfl,hk⟩:=h
  have he:(Op.equal t .nilIface .nilIface).run P w=.ok true w:=by
   have:∀ m,(Op.equalIn (m + 1) t .nilIface .nilIface).run P w=.ok true w:=fun m=>by simp [Op.equalIn,run_underlying hu]
   exact this _
  have hg:(Op.eqGuardIn Op.maxDepth t .nilIface .nilIface).run P w=.ok false w:=by
   have:∀ m,(Op.eqGuardIn (m + 1) t .nilIface .nilIface).run P w=.ok false w:=fun m=>by simp [Op.eqGuardIn,run_underlying hu]
   exact this _
  refine ⟨.bool true,.v (.bool true),?_,.v _ rfl,hk⟩
  simp only [eqGuard,Sem.run_bind]
  split <;> simp [binOp,he,hg]
 ·cases hx; cases hy
  obtain ⟨r,h1,h2,h3⟩:=uC h t ox oy w
  exact ⟨r,.v r,h1,.v r h2,h3⟩
 ·rename_i xs ys
  split at h
  ·rename_i b hb
   obtain ⟨hg,h⟩:=h
   have he:=J7 9 t _ _ b u v 10000 (by omega) hb hx hy
   cases hx with
   | agg _ us h1 h2 h3=>
    cases hy with
    | agg _ vs k1 k2 k3=>
     cases op <;> simp only at h <;> try exact h.elim
     ·exact ⟨_,_,by rw [Sem.run_bind,run_eqGuard_agg w _ t ox oy _ _ hg,Result.andThen_ok,run_eql_struct,he,Result.andThen_ok],.v _ rfl,h⟩
     ·exact ⟨_,_,by rw [Sem.run_bind,run_eqGuard_agg w _ t ox oy _ _ hg,Result.andThen_ok,run_neq_struct,he,Result.andThen_ok],.v _ rfl,h⟩
  ·exact h.elim
 ·rename_i rows tk
  split at h
  ·rename_i i hi
   obtain ⟨hd,h⟩:=h
   cases hy
   cases hx with
   | sl _ _ _ hdc _=>
    obtain ⟨a,c,rfl,_,_,hr⟩:=hdc
    have heq:=QE hi hd a rows.length c (w:=w)
    have hnone:a.isNone=true→rows=[]:=by
     rcases hr with hr | ⟨b,st,sz,rfl,_⟩
     ·exact fun _=>hr
     ·intro h; cases h
    cases op <;> simp only at h <;> try exact h.elim
    ·refine ⟨.bool a.isNone,.v (.bool a.isNone),?_,.v _ rfl,?_⟩
     ·simp [eqGuard,binOp,heq]
     ·cases ha:a.isNone
      ·exact h.2
      ·exact h.1 (hnone ha)
    ·refine ⟨.bool (!a.isNone),.v (.bool (!a.isNone)),?_,.v _ rfl,?_⟩
     ·simp [eqGuard,binOp,heq]
     ·cases ha:a.isNone
      ·exact h.2
      ·exact h.1 (hnone ha)
  ·exact h.elim
 ·exact h.elim
def tW (P:Program) (t:TypeId) (x:AV) (k:AV→Prop):Prop :=
 match ti P t with
 | some i=>
  match i.desc,x with
  | .string,.v (.string s)=>k (.v (.int .i64 s.size))
  | .slice _,.sl rows _=>rows.length≤maxLen→k (.v (.int .i64 rows.length))
  | .slice _,.v (.slice none 0 0)=>k (.v (.int .i64 0))
  | .slice _,.bsl _ _ len=>k (.v (.int .i64 len))
  | .array n _,_=>k (.v (.int .i64 n))
  | _,_=>False
 | none=>False
theorem Aw {P:Program}{G:aL}{w:World}{t:TypeId}{x:AV}{v:Value}{k:AV→Prop} (ts:Array TypeId) (ty:TypeId)
  (h:tW P t x k) (hx:aR G w x v) (ht:ts[0]?=some t):∃ r y,(Builtin.len_ ts ty #[v]).run P w=.ok r w∧aR G w y r∧k y:=by
 unfold tW at h
 split at h
 ·rename_i i hi
  have hu:=eH hi w
  split at h
  ·rename_i s hd
   rw [hd] at hu; cases hx
   exact ⟨_,_,by simp [Builtin.len_,ht,hu,goInt],.v _ rfl,h⟩
  ·rename_i e rows tk hd
   rw [hd] at hu
   cases hx with
   | sl _ _ _ hdc _=>
    obtain ⟨a,c,rfl,hn,hc,hor⟩:=hdc
    exact ⟨_,_,by simp [Builtin.len_,ht,hu,goInt],.v _ rfl,h (by omega)⟩
  ·rename_i e hd
   rw [hd] at hu; cases hx
   exact ⟨_,_,by simp [Builtin.len_,ht,hu,goInt],.v _ rfl,h⟩
  ·rename_i e o off len hd
   rw [hd] at hu
   cases hx with
   | bsl0=>exact ⟨_,_,by simp [Builtin.len_,ht,hu,goInt],.v _ rfl,h⟩
   | bsl=>exact ⟨_,_,by simp [Builtin.len_,ht,hu,goInt],.v _ rfl,h⟩
  ·rename_i n e hd
   rw [hd] at hu
   exact ⟨_,_,by simp [Builtin.len_,ht,hu,goInt],.v _ rfl,h⟩
  ·exact h.elim
 ·exact h.elim
theorem r7 {bl bl':List GB}{imm imm':Nat→Nat→Prop} (key:∀ (o:Nat) (g:GB),bl[o]?=some g→bl'[o]?=some g) (hi:∀ b off,imm b off→imm' b off) :
  ∀ (t:Tk) (b off:Nat),aL.im ⟨bl,imm⟩ t b off→aL.im ⟨bl',imm'⟩ t b off:=by
 intro t b off h
 cases t with
 | none=>exact hi b off h
 | exact=>exact hi b off h
 | own o=>
  rcases h with h | ⟨len,cap,sz,h1,h2⟩
  ·exact .inl (hi b off h)
  ·exact .inr ⟨len,cap,sz,key o _ h1,h2⟩
theorem jG {G:aL}{t:Tk}{b off:Nat} (h:G.im t b off):G.imm b off ∨ ∃ (o:Nat) (len cap sz:Nat),t=.own o∧G.bl[o]?=some (GB.tok b len cap sz true)∧off < len * sz:=by
 cases t with
 | none=>exact .inl h
 | exact=>exact .inl h
 | own o=>
  rcases h with h | ⟨len,cap,sz,h1,h2⟩
  ·exact .inl h
  ·exact .inr ⟨o,len,cap,sz,rfl,h1,h2⟩
theorem iU.mono {G G':aL}{w w':World} (h:Ext G w G' w') {g:GB} (hb:∀ b,g.blk=some b→w'.heap[b]?=w.heap[b]?)
  (hi:∀ b,g.blk=some b→∀ off,G'.imm b off→G.imm b off) {x:Obj} (hx:iU G w g x):iU G' w' g x:=by
 cases x with
 | box cells=>
  rcases hx with hx | ⟨b,c,e,rfl,h1,h2,h3,h4⟩
  ·exact .inl hx
  ·exact .inr ⟨b,c,e,rfl,(hb b rfl).trans h1,h2,fun j x v hj hv=>⟨(h3 j x v hj hv).1,(h3 j x v hj hv).2.mono h⟩,fun off hh=>h4 off (hi b rfl off hh)⟩
 | tok len sz e ex=>
  rcases hx with hx | ⟨b,cap,cur,rfl,h1,h2,h3,h4,h5,h6⟩
  ·exact .inl hx
  ·exact .inr ⟨b,cap,cur,rfl,(hb b rfl).trans h1,h2,h3,h4,fun he off hh=>h5 he off (hi b rfl off hh),fun he off hh=>h6 he off (hi b rfl off hh)⟩
 | map es=>
  obtain ⟨b,ents,clock,rfl,h1,h2,h3,h4,h5⟩:=hx
  exact ⟨b,ents,clock,rfl,(hb b rfl).trans h1,h2,fun i k x e hi he=>⟨(h3 i k x e hi he).1,(h3 i k x e hi he).2.1.mono h,(h3 i k x e hi he).2.2⟩,h4,fun off hh=>h5 off (hi b rfl off hh)⟩
 | mapB bs clock es=>
  obtain ⟨b,ents,rfl,h1,h2,h3,h4,h6,h5⟩:=hx
  exact ⟨b,ents,rfl,(hb b rfl).trans h1,h2,fun i k x e hi he=>⟨(h3 i k x e hi he).1,(h3 i k x e hi he).2.1.mono h,(h3 i k x e hi he).2.2⟩,h4,h6,fun off hh=>h5 off (hi b rfl off hh)⟩
 | iter m since seen=>
  obtain ⟨b,mb,rfl,h1,h2,h3⟩:=hx
  exact ⟨b,mb,rfl,h.obj m mb h1,(hb b rfl).trans h2,fun off hh=>h3 off (hi b rfl off hh)⟩
 | siter s pos=>
  obtain ⟨b,rfl,h1,h2⟩:=hx
  exact ⟨b,rfl,(hb b rfl).trans h1,fun off hh=>h2 off (hi b rfl off hh)⟩
 | bld e buf=>
  obtain ⟨b,c0,c1,rfl,h1,h2,h3,h4,h5⟩:=hx
  exact ⟨b,c0,c1,rfl,(hb b rfl).trans h1,h2,h3,h4.mono h,fun off hh=>h5 off (hi b rfl off hh)⟩
 | lin v sz e rows=>
  rcases hx with hx | ⟨b,cap,cur,rfl,h1,h2,h3,h4,h5,h6,h7⟩
  ·exact .inl hx
  ·refine .inr ⟨b,cap,cur,rfl,h1,(hb b rfl).trans h2,h3,h4,h5,fun off hh=>h6 off (hi b rfl off hh),?_⟩
   refine h7.mono (fun b' o e=>?_) (fun _ _ e=>e) h.cell h.imm
   subst e
   simp only [World.cell?,hb b' rfl]
 | dead=>exact hx
theorem Mem.imLt {G:aL}{w:World}{objs:List Obj} (hm:Mem G objs w) (t:Tk) (b off:Nat) (h:G.im t b off):b < w.heap.size:=by
 rcases jG h with h | ⟨o,len,cap,sz,_,h1,_⟩
 ·exact hm.immLt.1 b off h
 ·exact hm.lt o _ b h1 rfl
theorem Mem.keep {G G':aL}{w w':World}{objs:List Obj} (hm:Mem G objs w) (h:Ext G w G' w') (hbl:G'.bl=G.bl)
  (hb:∀ b,b < w.heap.size→w'.heap[b]?=w.heap[b]?) (hi:∀ b,b < w.heap.size→∀ off,G'.imm b off→G.imm b off) (hs:w.heap.size≤w'.heap.size)
  (hlt:∀ b off,G'.imm b off→b < w'.heap.size):Mem G' objs w':=by
 refine ⟨by rw [hbl]; exact hm.len,?_,?_,?_,hlt,hm.gl h⟩
 ·intro o x g ho hg
  rw [hbl] at hg
  exact (hm.ok o x g ho hg).mono h (fun b hbb=>hb b (hm.lt o g b hg hbb)) (fun b hbb=>hi b (hm.lt o g b hg hbb))
 ·intro o o' g g' b h1 h2; rw [hbl] at h1 h2; exact hm.inj o o' g g' b h1 h2
 ·intro o g b h1 h2; rw [hbl] at h1; exact Nat.lt_of_lt_of_le (hm.lt o g b h1 h2) hs
theorem Mem.push {G:aL}{w:World}{objs:List Obj} (hm:Mem G objs w) {g:GB}{x:Obj} (hx:iU ⟨G.bl ++ [g],G.imm⟩ w g x)
  (hnew:∀ b,g.blk=some b→b < w.heap.size∧∀ (o:Nat) (g':GB),G.bl[o]?=some g'→g'.blk ≠ some b):Mem ⟨G.bl ++ [g],G.imm⟩ (objs ++ [x]) w:=by
 have hold:∀ (o:Nat) (g':GB),(G.bl ++ [g])[o]?=some g'→(o < G.bl.length∧G.bl[o]?=some g') ∨ (o=G.bl.length∧g'=g):=by
  intro o g' h
  rcases Nat.lt_trichotomy o G.bl.length with hl | hl | hl
  ·rw [List.getElem?_append_left hl] at h; exact .inl ⟨hl,h⟩
  ·subst hl; simp at h; exact .inr ⟨rfl,h.symm⟩
  ·rw [List.getElem?_append_right (Nat.le_of_lt hl),List.getElem?_eq_none (by simp; omega)] at h; cases h
 have hext:Ext G w ⟨G.bl ++ [g],G.imm⟩ w:=by
  have key:∀ (o:Nat) (g':GB),G.bl[o]?=some g'→(G.bl ++ [g])[o]?=some g':=by
   intro o g' h
   have hl:o < G.bl.length:=by
    rcases Nat.lt_or_ge o G.bl.length with hl | hl
    ·exact hl
    ·rw [List.getElem?_eq_none hl] at h; cases h
   rw [List.getElem?_append_left hl]; exact h
  exact ⟨fun _ _ _ _=>rfl,r7 key (fun _ _ h=>h),fun o b h=>key o _ h,fun o l h=>.inl (key o _ h),fun o b l c sz ex h=>⟨b,l,c,sz,ex,key o _ h,.inr ⟨rfl,rfl,rfl⟩⟩⟩
 refine ⟨by simp [hm.len],?_,?_,?_,hm.immLt⟩
 ·intro o y g' ho hg
  rcases hold o g' hg with ⟨hl,h1⟩ | ⟨hl,rfl⟩
  ·rw [List.getElem?_append_left (by rw [← hm.len]; exact hl)] at ho
   exact (hm.ok o y g' ho h1).mono hext (fun _ _=>rfl) (fun _ _ _ h=>h)
  ·rw [hl,hm.len] at ho
   simp at ho
   subst ho
   exact hx
 ·intro o o' g1 g2 b h1 h2 e1 e2
  rcases hold o g1 h1 with ⟨hl1,k1⟩ | ⟨hl1,rfl⟩ <;> rcases hold o' g2 h2 with ⟨hl2,k2⟩ | ⟨hl2,rfl⟩
  ·exact hm.inj o o' g1 g2 b k1 k2 e1 e2
  ·exact ((hnew b e2).2 o g1 k1 e1).elim
  ·exact ((hnew b e1).2 o' g2 k2 e2).elim
  ·omega
 ·intro o g' b h1 e1
  rcases hold o g' h1 with ⟨_,k1⟩ | ⟨_,rfl⟩
  ·exact hm.lt o g' b k1 e1
  ·exact (hnew b e1).1
theorem rW (G:aL) (w:World) (g:GB):Ext G w ⟨G.bl ++ [g],G.imm⟩ w:=by
 have key:∀ (o:Nat) (g':GB),G.bl[o]?=some g'→(G.bl ++ [g])[o]?=some g':=by
  intro o g' h
  have hl:o < G.bl.length:=by
   rcases Nat.lt_or_ge o G.bl.length with hl | hl
   ·exact hl
   ·rw [List.getElem?_eq_none hl] at h; cases h
  rw [List.getElem?_append_left hl]; exact h
 exact ⟨fun _ _ _ _=>rfl,r7 key (fun _ _ h=>h),fun o b h=>key o _ h,fun o l h=>.inl (key o _ h),fun o b l c sz ex h=>⟨b,l,c,sz,ex,key o _ h,.inr ⟨rfl,rfl,rfl⟩⟩⟩
theorem KG (w:World) (o:Go.Obj) (b:Nat) (h:b < w.heap.size):(w.alloc o).heap[b]?=w.heap[b]?:=by
 show (w.heap.push o)[b]?=w.heap[b]?
 rw [Array.getElem?_push,if_neg (by omega)]
theorem eG (w:World) (o:Go.Obj):(w.alloc o).heap[w.heap.size]?=some o:=by
 show (w.heap.push o)[w.heap.size]?=some o
 simp
theorem fF {w w':World}{b:Nat} (h:w'.heap[b]?=w.heap[b]?) (o:Nat):w'.cell? ⟨b,o,none⟩=w.cell? ⟨b,o,none⟩:=by simp [World.cell?,h]
structure gP (w w':World):Prop where
 heap:∀ b,b < w.heap.size→w'.heap[b]?=w.heap[b]?
 size:w.heap.size≤w'.heap.size
 os:w'.os=w.os
 tape:w'.tape=w.tape
 output:w'.output=w.output∧w.drawn≤w'.drawn
theorem gP.refl (w:World):gP w w:=⟨fun _ _=>rfl,Nat.le_refl _,rfl,rfl,⟨rfl,Nat.le_refl _⟩⟩
theorem gP.alloc {w w':World} (h:gP w w') (o:Go.Obj):gP w (w'.alloc o) :=
 ⟨fun b hb=>(KG w' o b (Nat.lt_of_lt_of_le hb h.size)).trans (h.heap b hb),by have:=h.size; simp; omega,h.os,h.tape,h.output⟩
theorem gP.drew {w w':World} (h:gP w w'):gP w w'.drew:=⟨h.heap,h.size,h.os,h.tape,⟨h.output.1,Nat.le_succ_of_le h.output.2⟩⟩
theorem gP.step {G:aL}{objs:List Obj}{w w':World} (hm:Mem G objs w) (h:gP w w') {imm':Nat→Nat→Prop} (h1:∀ b off,G.imm b off→imm' b off)
  (h2:∀ b off,imm' b off→G.imm b off ∨ (w.heap.size≤b∧b < w'.heap.size)):bO G w ⟨G.bl,imm'⟩ w'∧Mem ⟨G.bl,imm'⟩ objs w':=by
 have hext:Ext G w ⟨G.bl,imm'⟩ w' :=
  ⟨fun t b o hi=>fF (h.heap b (hm.imLt t b o hi)) o,r7 (fun _ _ h=>h) h1,fun _ _ h=>h,fun _ _ h=>.inl h,fun _ b l c sz ex h=>⟨b,l,c,sz,ex,h,.inr ⟨rfl,rfl,rfl⟩⟩⟩
 refine ⟨⟨hext,fun k hk _=>h.heap k hk,h.size,h.os,h.tape,h.output,?_,fun o g b hg hb=>.inr ⟨o,g,hg,hb⟩⟩,?_⟩
 ·intro b off hi
  rcases h2 b off hi with h3 | h3
  ·exact .inl h3
  ·exact .inr (.inl h3.1)
 ·refine hm.keep hext rfl h.heap ?_ h.size ?_
  ·intro b hb off hi
   rcases h2 b off hi with h3 | h3
   ·exact h3
   ·omega
  ·intro b off hi
   rcases h2 b off hi with h3 | h3
   ·exact Nat.lt_of_lt_of_le (hm.immLt.1 b off h3) h.size
   ·exact h3.2
theorem bO.push {G G':aL}{w w':World} (h:bO G w G' w') (g:GB) (hnew:∀ b,g.blk=some b→w.heap.size≤b):bO G w ⟨G'.bl ++ [g],G'.imm⟩ w':=by
 refine ⟨h.ext.trans (rW G' w' g),h.heap,h.size,h.os,h.tape,h.output,h.imm2,?_⟩
 intro o g' b hg hb
 rcases Nat.lt_trichotomy o G'.bl.length with hl | hl | hl
 ·rw [List.getElem?_append_left hl] at hg; exact h.blk o g' b hg hb
 ·subst hl; simp at hg; subst hg; exact .inl (hnew b hb)
 ·rw [List.getElem?_append_right (Nat.le_of_lt hl),List.getElem?_eq_none (by simp; omega)] at hg; cases hg
theorem GG {G:aL}{objs:List Obj}{w:World} (hm:Mem G objs w) {cells:List AV}{vs:List Value} (hc:cQ G w cells vs) (h1:nK vs) (e:TypeId) :
  ∃ G',bO G w G' (w.alloc (.cells vs.toArray e))∧Mem G' (objs ++ [.box cells]) (w.alloc (.cells vs.toArray e)) ∧
   aR G' (w.alloc (.cells vs.toArray e)) (.ptr objs.length 0) (.pointer (some ⟨w.heap.size,0,none⟩)):=by
 obtain ⟨hs,hm'⟩:=gP.step hm ((gP.refl w).alloc (.cells vs.toArray e)) (imm':=G.imm) (fun _ _ h=>h) (fun _ _ h=>.inl h)
 have hnb:∀ b,(GB.obj w.heap.size).blk=some b→w.heap.size≤b:=by intro b hb; simp [GB.blk] at hb; omega
 refine ⟨⟨G.bl ++ [.obj w.heap.size],G.imm⟩,hs.push _ hnb,?_,?_⟩
 ·refine Mem.push (G:=⟨G.bl,G.imm⟩) hm' ?_ ?_
  ·refine .inr ⟨w.heap.size,vs.toArray,e,rfl,eG w _,by simp [hc.1],?_,?_⟩
   ·intro j x v hj hv
    have hv':vs[j]?=some v:=by simpa using hv
    exact ⟨h1 j v hv',(hc.2 j x v hj hv').mono (hs.push _ hnb).ext⟩
   ·intro off hi
    have:=hm.immLt.1 _ _ hi
    omega
  ·intro b hb
   simp [GB.blk] at hb
   subst hb
   refine ⟨by simp,fun o g hg hbb=>?_⟩
   have:=hm.lt o g _ hg hbb
   omega
 ·refine .ptr _ _ _ ?_
  rw [← hm.len]
  simp
theorem vP:∀ (us c:List Value) (off:Nat),off + us.length≤c.length→gF c off us=c.take off ++ us ++ c.drop (off + us.length)
 | [],c,off,_=>by simp [gF]
 | u :: us,c,off,h=>by
  simp only [gF]
  rw [vP us (c.set off u) (off + 1) (by simp at h ⊢; omega)]
  have:=list_seg_step c off u us (by simpa using h)
  rw [this]
  simp
theorem HB {P:Program}{G:aL}{objs:List Obj}{w:World} (hm:Mem G objs w) {o off b:Nat}{cells xs:List AV}{us:List Value} (ho:objs[o]?=some (.box cells))
  (hb:G.bl[o]?=some (.obj b)) (hx:cQ G w xs us) (h1:nK us) (hfit:off + xs.length≤cells.length) :
  ∃ w',(storeCells ⟨b,off,none⟩ us).run P w=.ok () w'∧bO G w G w'∧Mem G (objs.set o (.box (setFrom cells off xs))) w':=by
 obtain ⟨g,hg,hok⟩:=hm.obj ho
 rw [hb] at hg; cases hg
 rcases hok with ⟨_,l,hl⟩ | ⟨b',c,e,hbe,hh,hsz,hc,him⟩
 ·cases hl
 cases hbe
 have hul:us.length=xs.length:=hx.1
 have hrun:=run_storeCells_at P b off e us 0 c w hh (by simp; omega) (fun v hv=>by
  obtain ⟨i,hi,rfl⟩:=List.mem_iff_getElem.1 hv
  exact h1 i _ (List.getElem?_eq_getElem hi))
 simp only [Nat.add_zero] at hrun
 have heq:(c.toList.take off ++ us ++ c.toList.drop (off + us.length))=gF c.toList off us:=(vP us c.toList off (by simp; omega)).symm
 rw [heq] at hrun
 have hext:Ext G w G (w.setRow b (gF c.toList off us).toArray):=by
  refine ⟨fun t b' o' hi=>?_,fun _ _ _ h=>h,fun _ _ h=>h,fun _ _ h=>.inl h,fun _ b l c sz ex h=>⟨b,l,c,sz,ex,h,.inr ⟨rfl,rfl,rfl⟩⟩⟩
  refine fF (setRow_other w b b' _ ?_) o'
  rintro rfl
  rcases jG hi with hi | ⟨o2,len,cap,sz,_,h1,_⟩
  ·exact him o' hi
  ·have:=hm.inj o o2 _ _ _ hb h1 rfl rfl
   subst this
   rw [hb] at h1; cases h1
 refine ⟨_,hrun,⟨hext,?_,by simp,rfl,rfl,⟨rfl,Nat.le_refl _⟩,fun _ _ h=>.inl h,fun o g b hg hb=>.inr ⟨o,g,hg,hb⟩⟩,?_⟩
 ·intro k hk hn
  refine setRow_other w b k _ ?_
  rintro rfl
  exact hn o _ hb rfl
 ·have hlo:o < objs.length:=by
   rcases Nat.lt_or_ge o objs.length with hl | hl
   ·exact hl
   ·rw [List.getElem?_eq_none hl] at ho; cases ho
  refine ⟨by simp [hm.len],?_,hm.inj,fun o g b' h1 h2=>by simpa using hm.lt o g b' h1 h2,fun b' off' h=>by simpa using hm.immLt.1 b' off' h,hm.gl hext⟩
  intro o' y g' ho' hg'
  by_cases heo:o=o'
  ·subst heo
   rw [List.getElem?_set,if_pos rfl,if_pos hlo] at ho'
   cases ho'
   rw [hb] at hg'; cases hg'
   have hcells:cQ G w cells (c.toList.take cells.length):=⟨by simp; omega,fun i x v hx hv=>by
    rw [List.getElem?_take] at hv
    split at hv
    ·exact (hc i x v hx (by simpa using hv)).2
    ·cases hv⟩
   have hone:nK (c.toList.take cells.length):=fun i v hv=>by
    rw [List.getElem?_take] at hv
    split at hv
    ·rename_i hi; exact (hc i _ v (List.getElem?_eq_getElem hi) (by simpa using hv)).1
    ·cases hv
   obtain ⟨k1,k2⟩:=cQ.setFrom off hcells hone hx h1
   have hsub:∀ (j:Nat) (v:Value),j < cells.length→(gF c.toList off us)[j]?=some v→(gF (c.toList.take cells.length) off us)[j]?=some v:=by
    intro j v hj hv
    rw [vP us c.toList off (by simp; omega)] at hv
    rw [vP us (c.toList.take cells.length) off (by simp; omega)]
    have hcl:cells.length≤c.toList.length:=by simpa using hsz
    have ht:(c.toList.take cells.length).take off=c.toList.take off:=by rw [List.take_take]; congr 1; omega
    rw [ht]
    rcases Nat.lt_or_ge j (c.toList.take off ++ us).length with hl | hl
    ·rw [List.getElem?_append_left hl] at hv ⊢; exact hv
    ·rw [List.getElem?_append_right hl] at hv ⊢
     have hlen:(c.toList.take off ++ us).length=off + us.length:=by simp; omega
     rw [hlen] at hl hv ⊢
     rw [List.getElem?_drop] at hv ⊢
     rw [List.getElem?_take,if_pos (by omega)]
     exact hv
   refine .inr ⟨b,_,e,rfl,setRow_heap w b c _ e (0,0) hh,by rw [List.size_toArray,AH,mW]; simpa using hsz,?_,him⟩
   intro j x v hj hv
   have hv':(gF c.toList off us)[j]?=some v:=by simpa using hv
   have hjl:j < cells.length:=by
    rcases Nat.lt_or_ge j cells.length with h | h
    ·exact h
    ·rw [List.getElem?_eq_none (by rw [mW]; exact h)] at hj; cases hj
   have hv2:=hsub j v hjl hv'
   exact ⟨k2 j v hv2,(k1.2 j x v hj hv2).mono hext⟩
  ·rw [List.getElem?_set,if_neg heo] at ho'
   refine (hm.ok o' y g' ho' hg').mono hext ?_ (fun _ _ _ h=>h)
   intro b' hb'
   refine setRow_other w b b' _ ?_
   rintro rfl
   exact heo (hm.inj o o' _ _ _ hb hg' rfl hb')
def jJ (w:World) (imm:Nat→Nat→Prop) (sz:Nat) (rows:List (List D)) (news:List Value):Prop :=
 news.length=rows.length * sz∧nK news ∧
 ∀ (i j:Nat) (r:List D) (d:D),rows[i]?=some r→r[j]?=some d→∃ u,news[i * sz + j]?=some u∧eX w imm d u
theorem jJ.nil (w:World) (imm:Nat→Nat→Prop) (sz:Nat):jJ w imm sz [] []:=⟨by simp,fun i u h=>by simp at h,fun i j r d h=>by simp at h⟩
theorem jJ.mono {w w':World}{imm imm':Nat→Nat→Prop} (hw:∀ b o,imm b o→w'.cell? ⟨b,o,none⟩=w.cell? ⟨b,o,none⟩) (hi:∀ b o,imm b o→imm' b o)
  {sz:Nat}{rows:List (List D)}{news:List Value} (h:jJ w imm sz rows news):jJ w' imm' sz rows news :=
 ⟨h.1,h.2.1,fun i j r d hr hd=>let ⟨u,hu,hc⟩:=h.2.2 i j r d hr hd; ⟨u,hu,hc.mono hw hi⟩⟩
theorem OP {rows:List (List D)}{sz:Nat} (hs:∀ r ∈ rows,r.length=sz) {i j:Nat}{r:List D}{d:D} (hr:rows[i]?=some r) (hd:r[j]?=some d):i < rows.length∧j < sz:=by
 have h1:i < rows.length:=by
  rcases Nat.lt_or_ge i rows.length with h | h
  ·exact h
  ·rw [List.getElem?_eq_none h] at hr; cases hr
 refine ⟨h1,?_⟩
 rw [← hs r (List.mem_of_getElem? hr)]
 rcases Nat.lt_or_ge j r.length with h | h
 ·exact h
 ·rw [List.getElem?_eq_none h] at hd; cases hd
theorem LC {i j n sz:Nat} (hi:i < n) (hj:j < sz):i * sz + j < n * sz:=by
 have:(i + 1) * sz≤n * sz:=Nat.mul_le_mul_right sz hi
 rw [Nat.add_mul] at this
 omega
theorem jJ.append {w:World}{imm:Nat→Nat→Prop}{sz:Nat}{rows rows2:List (List D)}{olds news:List Value} (hs:∀ r ∈ rows,r.length=sz)
  (h:jJ w imm sz rows olds) (h2:jJ w imm sz rows2 news):jJ w imm sz (rows ++ rows2) (olds ++ news):=by
 refine ⟨by rw [List.length_append,List.length_append,h.1,h2.1,Nat.add_mul],?_,?_⟩
 ·intro i u hu
  rcases Nat.lt_or_ge i olds.length with hl | hl
  ·rw [List.getElem?_append_left hl] at hu; exact h.2.1 i u hu
  ·rw [List.getElem?_append_right hl] at hu; exact h2.2.1 _ u hu
 ·intro i j r d hr hd
  rcases Nat.lt_or_ge i rows.length with hl | hl
  ·rw [List.getElem?_append_left hl] at hr
   obtain ⟨u,hu,hc⟩:=h.2.2 i j r d hr hd
   have:=(OP hs hr hd).2
   have:=LC hl this
   exact ⟨u,by rw [List.getElem?_append_left (by rw [h.1]; exact this)]; exact hu,hc⟩
  ·rw [List.getElem?_append_right hl] at hr
   obtain ⟨u,hu,hc⟩:=h2.2.2 _ j r d hr hd
   refine ⟨u,?_,hc⟩
   have e:i * sz + j - olds.length=(i - rows.length) * sz + j:=by
    rw [h.1,Nat.sub_mul]
    have:rows.length * sz≤i * sz:=Nat.mul_le_mul_right sz hl
    omega
   rw [List.getElem?_append_right (by rw [h.1]; have:rows.length * sz≤i * sz:=Nat.mul_le_mul_right sz hl; omega),e]
   exact hu
theorem jJ.rowsAt {w:World}{i1 imm:Nat→Nat→Prop}{sz:Nat}{rows:List (List D)}{news:List Value} (hs:∀ r ∈ rows,r.length=sz) (h:jJ w imm sz rows news) {b st:Nat}
  (hc:∀ q u,news[q]?=some u→w.cell? ⟨b,st + q,none⟩=some u) (hi:∀ q,q < rows.length * sz→i1 b (st + q)):hU w i1 imm b st sz rows:=by
 refine ⟨fun i r hr=>hs r (List.mem_of_getElem? hr),fun i j r d hr hd=>?_⟩
 obtain ⟨u,hu,hd'⟩:=h.2.2 i j r d hr hd
 obtain ⟨h1,h2⟩:=OP hs hr hd
 refine ⟨u,?_,?_,hd'⟩
 ·rw [Nat.add_assoc]; exact hc _ _ hu
 ·rw [Nat.add_assoc]; exact hi _ (LC h1 h2)
theorem hU.flat {w:World}{i1 imm:Nat→Nat→Prop}{b st sz:Nat}{rows:List (List D)} (hsz:0 < sz) (h:hU w i1 imm b st sz rows) :
  ∃ news,jJ w imm sz rows news∧∀ q u,news[q]?=some u→w.cell? ⟨b,st + q,none⟩=some u∧i1 b (st + q):=by
 have hcell:∀ q,q < rows.length * sz→∃ u d,w.cell? ⟨b,st + q,none⟩=some u∧i1 b (st + q)∧eX w imm d u:=by
  intro q hq
  have h1:q / sz < rows.length:=(Nat.div_lt_iff_lt_mul hsz).2 hq
  have hr:=List.getElem?_eq_getElem h1
  have hl:=h.1 _ _ hr
  have h2:q % sz < (rows[q / sz]).length:=by rw [hl]; exact Nat.mod_lt _ hsz
  obtain ⟨u,hu,him,hc⟩:=h.2 (q / sz) (q % sz) _ _ hr (List.getElem?_eq_getElem h2)
  have e:st + q / sz * sz + q % sz=st + q:=by
   have:=Nat.div_add_mod q sz
   rw [Nat.mul_comm] at this
   omega
  rw [e] at hu him
  exact ⟨u,_,hu,him,hc⟩
 refine ⟨(List.range (rows.length * sz)).map fun q=>(w.cell? ⟨b,st + q,none⟩).getD undef,⟨by simp,?_,?_⟩,?_⟩
 ·intro q u hu
  rcases Nat.lt_or_ge q (rows.length * sz) with hl | hl
  ·obtain ⟨u',d,hu',_,hc⟩:=hcell q hl
   simp only [List.getElem?_map,List.getElem?_range hl,Option.map_some,hu',Option.getD_some,Option.some.injEq] at hu
   subst hu; exact hc.one
  ·rw [List.getElem?_eq_none (by simpa using hl)] at hu; cases hu
 ·intro i j r d hr hd
  obtain ⟨u,hu,_,hc⟩:=h.2 i j r d hr hd
  have hl:=h.1 i r hr
  have h1:i < rows.length:=by
   rcases Nat.lt_or_ge i rows.length with h | h
   ·exact h
   ·rw [List.getElem?_eq_none h] at hr; cases hr
  have h2:j < sz:=by
   rw [← hl]
   rcases Nat.lt_or_ge j r.length with h | h
   ·exact h
   ·rw [List.getElem?_eq_none h] at hd; cases hd
  refine ⟨u,?_,hc⟩
  rw [Nat.add_assoc] at hu
  simp only [List.getElem?_map,List.getElem?_range (LC h1 h2),Option.map_some,hu,Option.getD_some]
 ·intro q u hu
  rcases Nat.lt_or_ge q (rows.length * sz) with hl | hl
  ·obtain ⟨u',d,hu',him,hc⟩:=hcell q hl
   simp only [List.getElem?_map,List.getElem?_range hl,Option.map_some,hu',Option.getD_some,Option.some.injEq] at hu
   subst hu; exact ⟨hu',him⟩
  ·rw [List.getElem?_eq_none (by simpa using hl)] at hu; cases hu
structure Src (P:Program) (w:World) (i1 imm:Nat→Nat→Prop) (sz:Nat) (rows:List (List D)) (v:Value) (news:List Value):Prop where
 flat:jJ w imm sz rows news
 len:∀ w0:World,(Builtin.lenOf v).run P w0=.ok rows.length w0
 cells:∀ w0:World,(∀ b o,i1 b o→w0.cell? ⟨b,o,none⟩=w.cell? ⟨b,o,none⟩)→(Builtin.firstCells sz rows.length v).run P w0=.ok news.toArray w0
theorem v6 {P:Program}{w:World}{i1 imm:Nat→Nat→Prop}{sz:Nat} (hsz:0 < sz) {rows:List (List D)}{v:Value} (hs:∀ r ∈ rows,r.length=sz) (h:SlC w i1 imm rows v) :
  ∃ news,Src P w i1 imm sz rows v news:=by
 obtain ⟨a,c,rfl,hn,hc,hor⟩:=h
 rcases hor with rfl | ⟨b,st,sz',rfl,hr⟩
 ·refine ⟨[],jJ.nil _ _ _,fun w0=>rfl,fun w0 _=>?_⟩
  cases a with
  | none=>exact run_firstCells_none w0 sz _ _ _
  | some a=>exact run_firstCells_some w0 sz _ a _ c [] (by simp) (by simp)
 ·by_cases hz:rows=[]
  ·subst hz
   exact ⟨[],jJ.nil _ _ _,fun w0=>rfl,fun w0 _=>run_firstCells_some w0 sz _ _ _ c [] (by simp) (by simp)⟩
  ·have hsz':sz'=sz:=by
    cases rows with
    | nil=>exact (hz rfl).elim
    | cons r rs=>rw [← hr.1 0 r rfl]; exact hs r (by simp)
   subst hsz'
   obtain ⟨news,hf,hcell⟩:=hr.flat hsz
   refine ⟨news,hf,fun w0=>rfl,fun w0 hw=>run_firstCells_some w0 sz' _ _ _ c news hf.1 (fun q u hu=>?_)⟩
   rw [Addr.add_mk,hw _ _ (hcell q u hu).2]
   exact (hcell q u hu).1
theorem Qp {P:Program}{w:World}{i1 imm:Nat→Nat→Prop} (s:ByteArray):Src P w i1 imm 1 (qH s.data.toList) (.string s) (s.data.toList.map fun b=>Value.int .u8 (b.toNat:Int)):=by
 have hl:(qH s.data.toList).length=s.size:=by simp [qH]
 refine ⟨⟨by simp [qH],?_,?_⟩,fun w0=>by rw [hl]; rfl,fun w0 _=>?_⟩
 ·intro i u hu
  rw [List.getElem?_map] at hu
  cases h:s.data.toList[i]? with
  | none=>simp [h] at hu
  | some b=>simp [h] at hu; subst hu; rfl
 ·intro i j r d hr hd
  simp only [qH,List.getElem?_map] at hr
  cases h:s.data.toList[i]? with
  | none=>simp [h] at hr
  | some b=>
   simp only [h,Option.map_some,Option.some.injEq] at hr
   subst hr
   cases j with
   | zero=>
    simp at hd; subst hd
    exact ⟨.int .u8 (b.toNat:Int),by simp [h],.v _ rfl⟩
   | succ j=>simp at hd
 ·rw [hl]
  simp only [Builtin.firstCells,Sem.run_pure]
  congr 1
  apply Array.ext'
  have:(s.extract 0 s.size).data=s.data:=by
   have:=Go.Lib.extract_data s 0 s.size
   apply Array.ext'
   rw [this]
   simp only [List.drop_zero,Nat.sub_zero]
   exact List.take_of_length_le (Nat.le_refl _)
  simp [this]
section runs
variable {P:Program} (w:World) (t xt ty e:TypeId) (i:TypeInfo) (z:Value) (ht:P.underlying t=some (.slice e)) (d:TypeDesc) (hx:P.underlying xt=some d) (hd:d=.slice e ∨ d=.string)
 (hi:P.info? e=some i) (hz:i.zero=some z) (x:Value) (m:Nat) (hl:∀ w0:World,(Builtin.lenOf x).run P w0=.ok m w0) (news:List Value)
include ht hx hd hi hl
theorem NR (g n cap:Nat) (cur:Array Value) (hg:w.heap[g]?=some (.cells cur e (0,0))) (hn:(Builtin.firstCells i.size m x).run P w=.ok news.toArray w) (h1:nK news)
  (hroom:n + m≤cap) (hfit:n * i.size + news.length≤cur.size) :
  (Builtin.append_ #[t,xt] ty #[.slice (some ⟨g,0,none⟩) n cap,x]).run P w =
   .ok (.slice (some ⟨g,0,none⟩) (n + m) cap) (w.setRow g (cur.toList.take (n * i.size) ++ news ++ cur.toList.drop (n * i.size + news.length)).toArray):=by
 have hst:=run_storeCells_at P g (n * i.size) e news 0 cur w hg (by simpa using hfit) (fun v hv=>by
  obtain ⟨j,hj,rfl⟩:=List.mem_iff_getElem.1 hv
  exact h1 j _ (List.getElem?_eq_getElem hj))
 simp only [Nat.add_zero] at hst
 rcases hd with rfl | rfl <;> simp [Builtin.append_,run_underlying ht,run_underlying hx,sizeOf,typeInfo,hi,hl,hroom,hn,Addr.add_mk,hst]
theorem Fo (a:Option Addr) (n cap:Nat) (hm:m=0) (hn:(Builtin.firstCells i.size 0 x).run P w=.ok #[] w) (hcap:n≤cap) :
  (Builtin.append_ #[t,xt] ty #[.slice a n cap,x]).run P w=.ok (.slice a n cap) w:=by
 subst hm
 cases a <;> rcases hd with rfl | rfl <;> simp [Builtin.append_,run_underlying ht,run_underlying hx,sizeOf,typeInfo,hi,hl,hcap,hn,storeCells]
include hz in
theorem FR (a:Option Addr) (n cap:Nat) (olds:List Value) (hn:(Builtin.firstCells i.size m x).run P w.drew=.ok news.toArray w.drew)
  (ho:(Builtin.firstCells i.size n (.slice a n cap)).run P w.drew=.ok olds.toArray w.drew)
  (hgrow:cap < n + m) (h63:((n + m:Nat):Int)≤9223372036854775807) (hfit:Builtin.nextslicecap (n + m) cap * i.bytes≤281474976710656) :
  (Builtin.append_ #[t,xt] ty #[.slice a n cap,x]).run P w =
   .ok (.slice (some ⟨w.heap.size,0,none⟩) (n + m) (grownCap w (n + m) cap e))
    (w.drew.alloc (.cells (olds.toArray ++ news.toArray ++ Builtin.zeroCells z.cells (grownCap w (n + m) cap e - (n + m))) e)):=by
 have hroom:¬ (n + m≤cap):=by omega
 have h63':¬ (9223372036854775807 < ((n:Int) + (m:Int))):=by omega
 have h48':¬ (281474976710656 < Builtin.nextslicecap (n + m) cap * i.bytes):=by omega
 rcases hd with rfl | rfl <;> (simp [Builtin.append_,run_underlying ht,run_underlying hx,sizeOf,typeInfo,zeroValue,hi,hz,hl,hroom,h63',h48',Question.forced,hn,ho,newRow,grownCap]; try (congr 2; apply Array.ext'; simp [List.append_assoc]))
end runs
def Hs:TypeDesc→Bool | .string=>true | _=>false
theorem RF {d:TypeDesc} (h:Hs d=true):d=.string:=by cases d <;> simp [Hs] at h; rfl
def oJ (P:Program) (t xt:TypeId) (e:TypeId) (x:AV):Option (List (List D)) :=
 match x with
 | .v (.slice none 0 0)=>if t=xt then some [] else none
 | .sl rows _=>if t=xt then some rows else none
 | .v (.string s)=>if (ti P xt).map (fun i=>Hs i.desc)=some true∧(ti P e).map TI.size=some 1 then some (qH s.data.toList) else none
 | _=>none
def k9 (P:Program) (t xt:TypeId) (objs:List Obj) (s x:AV) (k:AV→List Obj→Prop):Prop :=
 match ti P t with
 | some i=>
  match i.desc with
  | .slice e=>
   match ti P e with
   | some j=>
    match oJ P t xt e x with
    | some rows2=>
     0 < j.size∧0 < j.bytes∧(∀ r ∈ rows2,r.length=j.size) ∧
     (match s with
     | .v (.slice none 0 0)=>rows2.length * j.bytes≤140737488355328∧k (.sl rows2 (.own objs.length)) (objs ++ [.tok rows2.length j.size e true])
     | .sl rows .exact=>0 < rows.length + rows2.length∧(∀ r ∈ rows,r.length=j.size)∧(rows.length + rows2.length) * j.bytes≤140737488355328 ∧
       k (.sl (rows ++ rows2) (.own objs.length)) (objs ++ [.tok (rows.length + rows2.length) j.size e rows.isEmpty])
     | .sl rows (.own o)=>
      match objs[o]? with
      | some (.tok len sz e' ex)=>len=rows.length∧sz=j.size∧e'=e∧(∀ r ∈ rows,r.length=j.size)∧(rows.length + rows2.length) * j.bytes≤140737488355328 ∧
        k (.sl (rows ++ rows2) (.own o)) (objs.set o (.tok (rows.length + rows2.length) j.size e ex))
      | _=>False
     | _=>False)
    | none=>False
   | none=>False
  | _=>False
 | none=>False
theorem P1 {P:Program}{G:aL}{w:World}{t xt e:TypeId}{i j:TI} (hi:ti P t=some i) (hd:i.desc=.slice e) (hj:ti P e=some j) (hs0:0 < j.size) {x:AV}{v:Value}{rows2:List (List D)}
  (h:oJ P t xt e x=some rows2) (hs:∀ r ∈ rows2,r.length=j.size) (hx:aR G w x v) :
  (∃ i1 news,(∀ b off,i1 b off→∃ t,G.im t b off)∧Src P w i1 G.imm j.size rows2 v news)∧∃ d,P.underlying xt=some d∧(d=.slice e ∨ d=.string):=by
 unfold oJ at h
 split at h
 ·split at h
  ·rename_i ht
   subst ht
   cases h
   refine ⟨?_,_,(b5 hi).1,.inl hd⟩
   cases hx
   obtain ⟨news,hn⟩:=v6 (P:=P) (w:=w) (i1:=G.imm) (imm:=G.imm) hs0 hs (SlC.nil none 0 (by simp [maxLen]))
   exact ⟨G.imm,news,fun b off h=>⟨.none,h⟩,hn⟩
  ·cases h
 ·split at h
  ·rename_i ht
   subst ht
   cases h
   refine ⟨?_,_,(b5 hi).1,.inl hd⟩
   cases hx with
   | sl _ tk _ hdc _=>
    obtain ⟨news,hn⟩:=v6 (P:=P) hs0 hs hdc
    exact ⟨_,news,fun b off h=>⟨_,h⟩,hn⟩
  ·cases h
 ·split at h
  ·rename_i s hc
   obtain ⟨hc1,hc2⟩:=hc
   cases h
   cases hx
   have h1:j.size=1:=by simpa [hj] using hc2
   rw [h1]
   refine ⟨⟨G.imm,_,fun b off h=>⟨.none,h⟩,Qp s⟩,?_⟩
   cases hxt:ti P xt with
   | none=>simp [hxt] at hc1
   | some ix=>
    simp [hxt] at hc1
    exact ⟨_,(b5 hxt).1,.inr (RF hc1)⟩
  ·cases h
 ·cases h
theorem G4 (z:Array Value) (n:Nat):(Builtin.zeroCells z n).size=n * z.size:=by simp [Builtin.zeroCells]
theorem J4 {P:Program}{G:aL}{objs:List Obj}{w:World} (hm:Mem G objs w) {e:TypeId}{j:TI} (hj:ti P e=some j) (hs0:0 < j.size) {rows:List (List D)}{olds:List Value}
  (hs:∀ r ∈ rows,r.length=j.size) (hf:jJ w G.imm j.size rows olds) (n cap0:Nat) (hn:n=rows.length) (h63:n≤maxLen) (z:Array Value) (hz:z.size=j.size) (ex:Bool) :
  ∃ cap:Nat,cap=grownCap w n cap0 e∧n≤cap∧cap≤maxLen∧∃ w',w'=w.drew.alloc (.cells (olds.toArray ++ Builtin.zeroCells z (cap - n)) e) ∧
   ∃ imm':Nat→Nat→Prop,bO G w ⟨G.bl,imm'⟩ w'∧Mem ⟨G.bl,imm'⟩ objs w'∧hU w' (fun b off=>imm' b off ∨ (b=w.heap.size∧off < n * j.size)) imm' w.heap.size 0 j.size rows ∧
    (ex=true→∀ off,¬ imm' w.heap.size off)∧(ex=false→∀ off,imm' w.heap.size off ↔ off < n * j.size) ∧
    w'.heap[w.heap.size]?=some (.cells (olds.toArray ++ Builtin.zeroCells z (cap - n)) e (0,0))∧(olds.toArray ++ Builtin.zeroCells z (cap - n)).size=cap * j.size:=by
 refine ⟨_,rfl,grownCap_ge w n cap0 e,grownCap_le_maxLen w n cap0 e h63,_,rfl,fun b off=>G.imm b off ∨ (ex=false∧b=w.heap.size∧off < n * j.size),?_⟩
 have hnew:(w.drew.alloc (.cells (olds.toArray ++ Builtin.zeroCells z (grownCap w n cap0 e - n)) e)).heap[w.heap.size]?=some (.cells (olds.toArray ++ Builtin.zeroCells z (grownCap w n cap0 e - n)) e (0,0)):=eG w.drew _
 obtain ⟨h1,h2⟩:=gP.step hm (((gP.refl w).drew).alloc (.cells (olds.toArray ++ Builtin.zeroCells z (grownCap w n cap0 e - n)) e)) (imm':=fun b off=>G.imm b off ∨ (ex=false∧b=w.heap.size∧off < n * j.size))
  (fun _ _ h=>.inl h) (fun b off h=>by
   rcases h with h | ⟨_,rfl,_⟩
   ·exact .inl h
   ·exact .inr ⟨Nat.le_refl _,by simp⟩)
 have hold:∀ off,¬ G.imm w.heap.size off:=fun off h=>by have:=hm.immLt.1 _ _ h; omega
 refine ⟨h1,h2,?_,?_,?_,hnew,?_⟩
 ·refine jJ.rowsAt hs (hf.mono h1.ext.cell h1.ext.imm) ?_ ?_
  ·intro q u hu
   rw [lM hnew,Nat.zero_add]
   have hq:q < olds.length:=by
    rcases Nat.lt_or_ge q olds.length with hl | hl
    ·exact hl
    ·rw [List.getElem?_eq_none hl] at hu; cases hu
   rw [Array.getElem?_append_left (by simpa using hq)]
   simpa using hu
  ·intro q hq
   rw [Nat.zero_add]
   exact .inr ⟨rfl,by rw [hn]; exact hq⟩
 ·intro he off h
  rcases h with h | ⟨h,_⟩
  ·exact hold off h
  ·rw [he] at h; cases h
 ·intro he off
  constructor
  ·rintro (h | ⟨_,_,h⟩)
   ·exact (hold off h).elim
   ·exact h
  ·intro h; exact .inr ⟨he,rfl,h⟩
 ·have hge:=grownCap_ge w n cap0 e
  rw [Array.size_append,G4,List.size_toArray,hf.1,hz,← hn,← Nat.add_mul]
  congr 1
  omega
theorem Mem.own_set {G:aL}{objs:List Obj}{w:World} (hm:Mem G objs w) {o:Nat}{g:GB}{x:Obj}{imm':Nat→Nat→Prop} (hb:∀ b,g.blk=some b→b < w.heap.size∧∀ (o':Nat) (g':GB),o' ≠ o→G.bl[o']?=some g'→g'.blk ≠ some b)
  (hx:iU ⟨G.bl.set o g,imm'⟩ w g x) (hext:Ext G w ⟨G.bl.set o g,imm'⟩ w) (hlt:∀ b off,imm' b off→b < w.heap.size)
  (hi:∀ (o':Nat) (g':GB) (b:Nat),o' ≠ o→G.bl[o']?=some g'→g'.blk=some b→∀ off,imm' b off→G.imm b off):Mem ⟨G.bl.set o g,imm'⟩ (objs.set o x) w:=by
 have hget:∀ (o':Nat) (g':GB),(G.bl.set o g)[o']?=some g'→(o'=o∧g'=g) ∨ (o' ≠ o∧G.bl[o']?=some g'):=by
  intro o' g' h
  rw [List.getElem?_set] at h
  by_cases he:o=o'
  ·subst he
   rw [if_pos rfl] at h
   split at h
   ·cases h; exact .inl ⟨rfl,rfl⟩
   ·cases h
  ·rw [if_neg he] at h; exact .inr ⟨fun e=>he e.symm,h⟩
 refine ⟨by simp [hm.len],?_,?_,?_,hlt,hm.gl hext⟩
 ·intro o' y g' ho hg
  rcases hget o' g' hg with ⟨rfl,rfl⟩ | ⟨hne,hg'⟩
  ·rw [List.getElem?_set,if_pos rfl] at ho
   split at ho
   ·cases ho; exact hx
   ·cases ho
  ·rw [List.getElem?_set,if_neg (Ne.symm hne)] at ho
   exact (hm.ok o' y g' ho hg').mono hext (fun _ _=>rfl) (fun b hbb off h=>hi o' g' b hne hg' hbb off h)
 ·intro o1 o2 g1 g2 b h1 h2 e1 e2
  rcases hget o1 g1 h1 with ⟨rfl,rfl⟩ | ⟨hn1,k1⟩ <;> rcases hget o2 g2 h2 with ⟨rfl,rfl⟩ | ⟨hn2,k2⟩
  ·rfl
  ·exact ((hb b e1).2 o2 g2 hn2 k2 e2).elim
  ·exact ((hb b e2).2 o1 g1 hn1 k1 e1).elim
  ·exact hm.inj o1 o2 g1 g2 b k1 k2 e1 e2
 ·intro o1 g1 b h1 e1
  rcases hget o1 g1 h1 with ⟨rfl,rfl⟩ | ⟨_,k1⟩
  ·exact (hb b e1).1
  ·exact hm.lt o1 g1 b k1 e1
theorem Iv {G:aL}{w:World}{o:Nat}{g0 g:GB}{imm':Nat→Nat→Prop} (hi:∀ b off,G.imm b off→imm' b off) (h0:G.bl[o]?=some g0)
  (him:∀ b off,G.im (.own o) b off→aL.im ⟨G.bl.set o g,imm'⟩ (.own o) b off)
  (h:(∃ l,g0=.full l∧((g=.full l) ∨ ∃ b l' c sz ex,g=.tok b l' c sz ex∧l < l')) ∨ (∃ b l c sz ex,g0=.tok b l c sz ex∧∃ b' l' c' sz' ex',g=.tok b' l' c' sz' ex'∧(l < l' ∨ (b'=b∧l'=l∧c'=c)))) :
  Ext G w ⟨G.bl.set o g,imm'⟩ w:=by
 have hl:o < G.bl.length:=by
  rcases Nat.lt_or_ge o G.bl.length with hl | hl
  ·exact hl
  ·rw [List.getElem?_eq_none hl] at h0; cases h0
 have other:∀ o',o ≠ o'→(G.bl.set o g)[o']?=G.bl[o']?:=fun o' hne=>by rw [List.getElem?_set,if_neg hne]
 have self:(G.bl.set o g)[o]?=some g:=by rw [List.getElem?_set,if_pos rfl,if_pos hl]
 refine ⟨fun _ _ _ _=>rfl,?_,?_,?_,?_⟩
 ·intro t b off ht
  by_cases he:t=.own o
  ·subst he; exact him b off ht
  ·cases t with
   | none=>exact hi b off ht
   | exact=>exact hi b off ht
   | own o'=>
    have hne:o ≠ o':=fun e=>he (by rw [e])
    rcases ht with ht | ⟨len,cap,sz,h1,h2⟩
    ·exact .inl (hi b off ht)
    ·exact .inr ⟨len,cap,sz,by rw [other o' hne]; exact h1,h2⟩
 ·intro o' b hb
  by_cases he:o=o'
  ·subst he
   rw [h0] at hb
   rcases h with ⟨l,rfl,_⟩ | ⟨b',l,c,sz,ex,rfl,_⟩ <;> cases hb
  ·rw [other o' he]; exact hb
 ·intro o' l hb
  by_cases he:o=o'
  ·subst he
   rw [h0] at hb
   rcases h with ⟨l',rfl,h⟩ | ⟨b',l',c,sz,ex,rfl,_⟩
   ·cases hb
    rcases h with rfl | ⟨b,l',c,sz,ex,rfl,hlt⟩
    ·exact .inl self
    ·exact .inr ⟨b,l',c,sz,ex,self,hlt⟩
   ·cases hb
  ·rw [other o' he]; exact .inl hb
 ·intro o' b l c sz ex hb
  by_cases he:o=o'
  ·subst he
   rw [h0] at hb
   rcases h with ⟨l',rfl,h⟩ | ⟨b',l',c',sz',ex',rfl,b2,l2,c2,sz2,ex2,rfl,h⟩
   ·cases hb
   ·cases hb; exact ⟨b2,l2,c2,sz2,ex2,self,h⟩
  ·rw [other o' he]; exact ⟨b,l,c,sz,ex,hb,.inr ⟨rfl,rfl,rfl⟩⟩
theorem Mem.lt_objs {G:aL}{objs:List Obj}{w:World} (_hm:Mem G objs w) {o:Nat}{x:Obj} (h:objs[o]?=some x):o < objs.length:=by
 rcases Nat.lt_or_ge o objs.length with hl | hl
 ·exact hl
 ·rw [List.getElem?_eq_none hl] at h; cases h
theorem Bw {α:Type}{l:List α}{o o':Nat}{g g':α} (h:(l.set o g)[o']?=some g'):(o'=o∧g'=g) ∨ (o' ≠ o∧l[o']?=some g'):=by
 rw [List.getElem?_set] at h
 by_cases he:o=o'
 ·subst he
  rw [if_pos rfl] at h
  split at h
  ·cases h; exact .inl ⟨rfl,rfl⟩
  ·cases h
 ·rw [if_neg he] at h; exact .inr ⟨fun e=>he e.symm,h⟩
theorem QV {G:aL}{objs:List Obj}{w:World} (hm:Mem G objs w) {e sz:Nat}{ex:Bool}{rows rows2:List (List D)}{olds news:List Value}
  (hs:∀ r ∈ rows ++ rows2,r.length=sz) (hf:jJ w G.imm sz (rows ++ rows2) (olds ++ news)) (hlo:olds.length=rows.length * sz) {o b cap:Nat}{cur:Array Value}
  (ho:objs[o]?=some (.tok rows.length sz e ex)) (hg:G.bl[o]?=some (.tok b rows.length cap sz ex)) (hh:w.heap[b]?=some (.cells cur e (0,0))) (hcs:cur.size=cap * sz)
  (hroom:rows.length + rows2.length≤cap) (hcm:cap≤maxLen) (him1:ex=true→∀ off,¬ G.imm b off) (him2:ex=false→∀ off,G.imm b off→off < rows.length * sz) (hcur:cur.toList.take (rows.length * sz)=olds) :
  ∃ G':aL,G'.bl[o]?=some (.tok b (rows.length + rows2.length) cap sz ex)∧bO G w G' (w.setRow b (cur.toList.take (rows.length * sz) ++ news ++ cur.toList.drop (rows.length * sz + news.length)).toArray) ∧
   Mem G' (objs.set o (.tok (rows.length + rows2.length) sz e ex)) (w.setRow b (cur.toList.take (rows.length * sz) ++ news ++ cur.toList.drop (rows.length * sz + news.length)).toArray) ∧
   hU (w.setRow b (cur.toList.take (rows.length * sz) ++ news ++ cur.toList.drop (rows.length * sz + news.length)).toArray) (G'.im (.own o)) G'.imm b 0 sz (rows ++ rows2):=by
 generalize hw:(w.setRow b (cur.toList.take (rows.length * sz) ++ news ++ cur.toList.drop (rows.length * sz + news.length)).toArray)=w'
 have hnl:(olds ++ news).length=(rows.length + rows2.length) * sz:=by rw [hf.1,List.length_append]
 have hcap:(rows.length + rows2.length) * sz≤cap * sz:=Nat.mul_le_mul_right sz hroom
 have hmul:rows.length * sz≤(rows.length + rows2.length) * sz:=Nat.mul_le_mul_right sz (by omega)
 have hh':w'.heap[b]?=some (.cells (olds ++ news ++ cur.toList.drop (rows.length * sz + news.length)).toArray e (0,0)):=by
  rw [← hw,setRow_heap w b cur _ e (0,0) hh,hcur]
 have hother:∀ k,k ≠ b→w'.heap[k]?=w.heap[k]?:=fun k hk=>by rw [← hw]; exact setRow_other w b k _ hk
 have hcellold:∀ off,off < rows.length * sz→w'.cell? ⟨b,off,none⟩=w.cell? ⟨b,off,none⟩:=by
  intro off hoff
  rw [lM hh',lM hh]
  have h1:off < olds.length:=by rw [hlo]; exact hoff
  have h2:off < (olds ++ news).length:=by rw [List.length_append]; omega
  rw [List.getElem?_toArray,List.getElem?_append_left h2,List.getElem?_append_left h1,← hcur,List.getElem?_take,if_pos hoff]
  simp
 have himb:∀ off,G.imm b off→off < rows.length * sz:=by
  intro off hi
  cases ex
  ·exact him2 rfl off hi
  ·exact (him1 rfl off hi).elim
 have hlb:o < G.bl.length:=by rw [hm.len]; exact hm.lt_objs ho
 let imm':Nat→Nat→Prop:=fun b' off=>G.imm b' off ∨ (ex=false∧b'=b∧off < (rows.length + rows2.length) * sz)
 have hself:(G.bl.set o (.tok b (rows.length + rows2.length) cap sz ex))[o]?=some (.tok b (rows.length + rows2.length) cap sz ex):=by
  rw [List.getElem?_set,if_pos rfl,if_pos hlb]
 have hext0:Ext G w ⟨G.bl,imm'⟩ w':=by
  refine ⟨fun t b' off hi=>?_,r7 (fun _ _ h=>h) (fun _ _ h=>.inl h),fun _ _ h=>h,fun _ _ h=>.inl h,fun _ b l c sz ex h=>⟨b,l,c,sz,ex,h,.inr ⟨rfl,rfl,rfl⟩⟩⟩
  by_cases hb:b'=b
  ·subst hb
   rcases jG hi with hi | ⟨o2,len,c2,sz2,_,h1,h2⟩
   ·exact hcellold off (himb off hi)
   ·have:=hm.inj o o2 _ _ _ hg h1 rfl rfl
    subst this
    rw [hg] at h1; cases h1
    exact hcellold off h2
  ·exact fF (hother b' hb) off
 have hsize:w'.heap.size=w.heap.size:=by rw [← hw]; simp
 have hext1:Ext ⟨G.bl,imm'⟩ w' ⟨G.bl.set o (.tok b (rows.length + rows2.length) cap sz ex),imm'⟩ w':=by
  refine Iv (G:=⟨G.bl,imm'⟩) (fun _ _ h=>h) hg ?_ (.inr ⟨b,rows.length,cap,sz,ex,rfl,b,_,cap,sz,ex,rfl,?_⟩)
  ·intro b' off hi
   rcases hi with hi | ⟨len,c2,sz2,h1,h2⟩
   ·exact .inl hi
   ·have h1':G.bl[o]?=some (.tok b' len c2 sz2 true):=h1
    rw [hg] at h1'; cases h1'
    exact .inr ⟨_,_,_,hself,by omega⟩
  ·rcases Nat.eq_zero_or_pos rows2.length with h0 | h0
   ·exact .inr ⟨rfl,by omega,rfl⟩
   ·exact .inl (by omega)
 refine ⟨⟨G.bl.set o (.tok b (rows.length + rows2.length) cap sz ex),imm'⟩,hself,⟨hext0.trans hext1,?_,by omega,by rw [← hw]; rfl,by rw [← hw]; rfl,by rw [← hw]; exact ⟨rfl,Nat.le_refl _⟩,?_,?_⟩,?_,?_⟩
 ·intro k hk hn
  refine hother k ?_
  rintro rfl
  exact hn o _ hg rfl
 ·intro b' off hi
  rcases hi with hi | ⟨_,rfl,_⟩
  ·exact .inl hi
  ·exact .inr (.inr ⟨o,_,hg,rfl⟩)
 ·intro o' g' b' hg' hb'
  rcases Bw hg' with ⟨rfl,rfl⟩ | ⟨_,hg'⟩
  ·simp [GB.blk] at hb'; subst hb'; exact .inr ⟨_,_,hg,rfl⟩
  ·exact .inr ⟨o',g',hg',hb'⟩
 ·have hm0:∀ (o':Nat) (x:Obj) (g:GB),o' ≠ o→objs[o']?=some x→G.bl[o']?=some g →
    iU ⟨G.bl.set o (.tok b (rows.length + rows2.length) cap sz ex),imm'⟩ w' g x:=by
   intro o' x g hne hx hgx
   have hbne:∀ b',g.blk=some b'→b' ≠ b:=by
    rintro b' hb' rfl
    exact hne (hm.inj o' o g _ _ hgx hg hb' rfl)
   refine (hm.ok o' x g hx hgx).mono (hext0.trans hext1) (fun b' hb'=>hother b' (hbne b' hb')) (fun b' hb' off hi=>?_)
   rcases hi with hi | ⟨_,rfl,_⟩
   ·exact hi
   ·exact (hbne _ hb' rfl).elim
  refine ⟨by simp [hm.len],?_,?_,?_,?_⟩
  ·intro o' x g hx hgx
   by_cases he:o=o'
   ·subst he
    rw [List.getElem?_set,if_pos rfl,if_pos (hm.lt_objs ho)] at hx
    cases hx
    rw [hself] at hgx
    cases hgx
    refine .inr ⟨b,cap,_,rfl,hh',?_,hroom,hcm,?_,?_⟩
    ·simp only [List.size_toArray,List.length_append,List.length_drop,Array.length_toList,hcs]
     rw [List.length_append] at hnl
     have:rows.length * sz + news.length≤cap * sz:=by rw [← hlo]; omega
     omega
    ·intro hex off hi
     rcases hi with hi | ⟨hf,_⟩
     ·exact him1 hex off hi
     ·rw [hex] at hf; cases hf
    ·intro hex off hi
     rcases hi with hi | ⟨_,_,hi⟩
     ·have:=him2 hex off hi
      omega
     ·exact hi
   ·rw [List.getElem?_set,if_neg he] at hx
    simp only [List.getElem?_set,if_neg he] at hgx
    exact hm0 o' x g (fun h=>he h.symm) hx hgx
  ·intro o1 o2 g1 g2 b' h1 h2 e1 e2
   have back:∀ (o':Nat) (g':GB),(G.bl.set o (.tok b (rows.length + rows2.length) cap sz ex))[o']?=some g'→g'.blk=some b'→∃ g'',G.bl[o']?=some g''∧g''.blk=some b':=by
    intro o' g' h e
    rcases Bw h with ⟨rfl,rfl⟩ | ⟨_,h⟩
    ·exact ⟨_,hg,e⟩
    ·exact ⟨g',h,e⟩
   obtain ⟨k1,p1,q1⟩:=back o1 g1 h1 e1
   obtain ⟨k2,p2,q2⟩:=back o2 g2 h2 e2
   exact hm.inj o1 o2 k1 k2 b' p1 p2 q1 q2
  ·intro o' g' b' h e
   rw [hsize]
   rcases Bw h with ⟨rfl,rfl⟩ | ⟨_,h⟩
   ·simp [GB.blk] at e; subst e; exact hm.lt _ _ b hg rfl
   ·exact hm.lt o' g' b' h e
  ·refine ⟨fun b' off hi=>?_,show uU imm' w' from hm.gl hext0⟩
   rw [hsize]
   rcases hi with hi | ⟨_,rfl,_⟩
   ·exact hm.immLt.1 b' off hi
   ·exact hm.lt o _ _ hg rfl
 ·refine jJ.rowsAt hs (hf.mono hext0.cell hext0.imm) ?_ ?_
  ·intro q u hu
   have hq:q < (olds ++ news).length:=by
    rcases Nat.lt_or_ge q (olds ++ news).length with hl | hl
    ·exact hl
    ·rw [List.getElem?_eq_none hl] at hu; cases hu
   rw [lM hh',Nat.zero_add,List.getElem?_toArray,List.getElem?_append_left hq]
   exact hu
  ·intro q hq
   rw [Nat.zero_add]
   rw [List.length_append] at hq
   cases ex
   ·exact .inl (.inr ⟨rfl,rfl,hq⟩)
   ·exact .inr ⟨_,_,_,hself,hq⟩
theorem fZ {α:Type}:∀ {l:List α}{o:Nat}{x:α},l[o]?=some x→l.set o x=l
 | [],_,_,h=>by simp at h
 | a :: l,0,x,h=>by simp at h; subst h; rfl
 | a :: l,o + 1,x,h=>by
  simp only [List.getElem?_cons_succ] at h
  rw [List.set_cons_succ,fZ h]
theorem G7 {P:Program}{G:aL}{objs:List Obj}{w:World} (hm:Mem G objs w) {t xt e:TypeId}{i j:TI} (hi:ti P t=some i) (hd:i.desc=.slice e) (hj:ti P e=some j) (hs0:0 < j.size) (hb0:0 < j.bytes)
  {rows rows2:List (List D)}{a:Option Addr}{vx:Value}{news:List Value}{i2:Nat→Nat→Prop} (hr:∀ r ∈ rows,r.length=j.size) (hr2:∀ r ∈ rows2,r.length=j.size)
  (hdc:SlC w G.imm G.imm rows (.slice a rows.length rows.length)) (hsrc:Src P w i2 G.imm j.size rows2 vx news) {dx:TypeDesc} (hx:P.underlying xt=some dx) (hdx:dx=.slice e ∨ dx=.string)
  (hbd:(rows.length + rows2.length) * j.bytes≤140737488355328) (hnz:rows.length + rows2.length=0→a=none) (ty:TypeId) :
  ∃ r G' w',(Builtin.append_ #[t,xt] ty #[.slice a rows.length rows.length,vx]).run P w=.ok r w'∧bO G w G' w' ∧
   Mem G' (objs ++ [.tok (rows.length + rows2.length) j.size e rows.isEmpty]) w'∧aR G' w' (.sl (rows ++ rows2) (.own objs.length)) r:=by
 have pt:P.underlying t=some (.slice e):=by rw [(b5 hi).1,hd]
 obtain ⟨_,f,z,hf,hz,hfs,hfb,hzc,hzl,_⟩:=b5 hj
 have hall:∀ r ∈ rows ++ rows2,r.length=j.size:=by
  intro r hrr
  rcases List.mem_append.1 hrr with h | h
  ·exact hr r h
  ·exact hr2 r h
 have hemp:rows.isEmpty=true→rows.length=0:=by intro h; simpa using h
 by_cases hm0:rows2.length=0
 ·have h2:rows2=[]:=List.eq_nil_of_length_eq_zero hm0
  subst h2
  have hnews:news=[]:=List.eq_nil_of_length_eq_zero (by simpa using hsrc.flat.1)
  subst hnews
  have hrun:=Fo (P:=P) w t xt ty e f pt dx hx hdx hf vx 0 (fun w0=>by simpa using hsrc.len w0) a rows.length rows.length rfl (by rw [hfs]; exact hsrc.cells w (fun _ _ _=>rfl)) (Nat.le_refl _)
  refine ⟨_,⟨G.bl ++ [.full (rows.length + 0)],G.imm⟩,w,hrun,(bO.refl G w).push _ (by intro b hb; cases hb),Mem.push hm (.inl ⟨rfl,fun h=>by have:=hemp h; simp only [List.length_nil]; omega⟩) (by intro b hb; cases hb),?_⟩
  rw [List.append_nil]
  refine .sl rows _ _ (hdc.mono (fun _ _ _=>rfl) (fun b off h=>.inl h) (fun _ _ _=>rfl) (fun _ _ h=>h)) (.inl ⟨rows.length,?_,Nat.le_refl _,fun _=>⟨a,rfl,fun h=>hnz (by simpa using h)⟩⟩)
  rw [← hm.len]; simp
 ·have hmax:rows.length + rows2.length≤maxLen:=by
   have:rows.length + rows2.length≤(rows.length + rows2.length) * j.bytes:=Nat.le_mul_of_pos_right _ hb0
   simp only [maxLen]; omega
  obtain ⟨olds,hsold⟩:=v6 (P:=P) hs0 hr hdc
  obtain ⟨cap,hcap,hle,hcm,w',hw',imm',hst,hmem,hra,himm1,himm2,hhh,hcsz⟩:=J4 (P:=P) hm hj hs0 hall (hsold.flat.append hr hsrc.flat) (rows.length + rows2.length) rows.length (by simp) hmax z.cells (by rw [hzc]; simp [hzl]) rows.isEmpty
  have hrun:=FR (P:=P) w t xt ty e f z pt dx hx hdx hf hz vx rows2.length hsrc.len news a rows.length rows.length olds
   (by rw [hfs]; exact hsrc.cells w.drew (fun _ _ _=>rfl)) (by rw [hfs]; exact hsold.cells w.drew (fun _ _ _=>rfl)) (by omega) (by simp only [maxLen] at hmax; omega)
   (by rw [hfb]; exact growslice_fits (by omega) hbd)
  rw [← hcap] at hrun
  have hgo:(G.bl ++ [GB.tok w.heap.size (rows.length + rows2.length) cap j.size rows.isEmpty])[objs.length]?=some (.tok w.heap.size (rows.length + rows2.length) cap j.size rows.isEmpty):=by
   rw [← hm.len]; simp
  refine ⟨.slice (some ⟨w.heap.size,0,none⟩) (rows.length + rows2.length) cap,⟨G.bl ++ [.tok w.heap.size (rows.length + rows2.length) cap j.size rows.isEmpty],imm'⟩,w',?_,hst.push _ (by intro b hb; simp [GB.blk] at hb; omega),?_,?_⟩
  ·rw [hrun,hw']
   simp
  ·refine Mem.push (G:=⟨G.bl,imm'⟩) hmem ?_ ?_
   ·exact .inr ⟨w.heap.size,cap,_,rfl,hhh,hcsz,hle,hcm,himm1,fun h off hi=>(himm2 h off).1 hi⟩
   ·intro b hb
    simp [GB.blk] at hb
    subst hb
    refine ⟨by rw [hw']; simp,fun o g hg hbb=>?_⟩
    have:=hm.lt o g _ hg hbb
    omega
  ·refine .sl _ _ _ ⟨some ⟨w.heap.size,0,none⟩,cap,by rw [List.length_append],by rw [List.length_append]; exact hle,hcm,.inr ⟨w.heap.size,0,j.size,rfl,?_⟩⟩ (.inr ⟨w.heap.size,rows.length + rows2.length,cap,j.size,_,hgo,by rw [List.length_append]; exact Nat.le_refl _,fun _=>rfl⟩)
   refine hra.mono (fun _ _ _=>rfl) ?_ (fun _ _ _=>rfl) (fun _ _ h=>h)
   rintro b off (h | ⟨rfl,h⟩)
   ·exact .inl h
   ·cases hex:rows.isEmpty
    ·exact .inl ((himm2 hex off).2 h)
    ·exact .inr ⟨_,_,_,by rw [← hex]; exact hgo,h⟩
theorem Mm {P:Program}{G:aL}{objs:List Obj}{w:World}{t xt:TypeId}{s x:AV}{vs vx:Value}{k:AV→List Obj→Prop}
  (h:k9 P t xt objs s x k) (hm:Mem G objs w) (hs:aR G w s vs) (hx:aR G w x vx) (ty:TypeId) :
  ∃ r y objs' G' w',(Builtin.append_ #[t,xt] ty #[vs,vx]).run P w=.ok r w'∧bO G w G' w'∧Mem G' objs' w'∧aR G' w' y r∧k y objs':=by
 unfold k9 at h
 split at h
 ·rename_i i hi
  split at h
  ·rename_i e hd
   split at h
   ·rename_i j hj
    split at h
    ·rename_i rows2 happ
     obtain ⟨hs0,hb0,hr2,h⟩:=h
     obtain ⟨⟨i2,news,hi2,hsrc⟩,dx,hxt,hdx⟩:=P1 hi hd hj hs0 happ hr2 hx
     split at h
     ·obtain ⟨hbd,hk⟩:=h
      cases hs
      obtain ⟨r,G',w',h1,h2,h3,h4⟩:=G7 (P:=P) hm hi hd hj hs0 hb0 (rows:=[]) (by simp) hr2 (SlC.nil none 0 (by simp [maxLen])) hsrc hxt hdx (by simpa using hbd) (fun _=>rfl) ty
      refine ⟨r,_,_,G',w',h1,h2,h3,h4,?_⟩
      simpa using hk
     ·obtain ⟨hpos,hr,hbd,hk⟩:=h
      cases hs with
      | sl _ _ _ hdc htk=>
       obtain ⟨a,rfl⟩:=htk
       obtain ⟨r,G',w',h1,h2,h3,h4⟩:=G7 (P:=P) hm hi hd hj hs0 hb0 hr hr2 hdc hsrc hxt hdx hbd (fun h=>by omega) ty
       exact ⟨r,_,_,G',w',h1,h2,h3,h4,hk⟩
     ·rename_i rows o
      split at h
      ·rename_i len sz e' ex hob
       obtain ⟨rfl,rfl,rfl,hr,hbd,hk⟩:=h
       have hall:∀ r ∈ rows ++ rows2,r.length=j.size:=by
        intro r hrr
        rcases List.mem_append.1 hrr with h | h
        ·exact hr r h
        ·exact hr2 r h
       have hmax:rows.length + rows2.length≤maxLen:=by
        have:rows.length + rows2.length≤(rows.length + rows2.length) * j.bytes:=Nat.le_mul_of_pos_right _ hb0
        simp only [maxLen]; omega
       have pt:P.underlying t=some (.slice e'):=by rw [(b5 hi).1,hd]
       obtain ⟨_,f,z,hf,hz,hfs,hfb,hzc,hzl,_⟩:=b5 hj
       have hlo:=hm.lt_objs hob
       have hlb:o < G.bl.length:=by rw [hm.len]; exact hlo
       have hgrow:∀ (a:Option Addr) (cap0:Nat) (g0:GB),SlC w (G.im (.own o)) G.imm rows (.slice a rows.length cap0)→cap0 < rows.length + rows2.length→G.bl[o]?=some g0 →
         (g0=.full rows.length ∨ ∃ b c,g0=.tok b rows.length c j.size ex)→0 < rows2.length →
         ∃ r y objs' G' w',(Builtin.append_ #[t,xt] ty #[.slice a rows.length cap0,vx]).run P w=.ok r w'∧bO G w G' w'∧Mem G' objs' w'∧aR G' w' y r∧k y objs':=by
        intro a cap0 g0 hdc hc0 hg0 hshape hpos
        obtain ⟨olds,hsold⟩:=v6 (P:=P) hs0 hr hdc
        obtain ⟨cap,hcap,hle,hcm,w',hw',imm',hst,hmem,hra,himm1,himm2,hhh,hcsz⟩:=J4 (P:=P) hm hj hs0 hall (hsold.flat.append hr hsrc.flat) (rows.length + rows2.length) cap0 (by simp) hmax z.cells (by rw [hzc]; simp [hzl]) ex
        have hrun:=FR (P:=P) w t xt ty e' f z pt dx hxt hdx hf hz vx rows2.length hsrc.len news a rows.length cap0 olds
         (by rw [hfs]; exact hsrc.cells w.drew (fun _ _ _=>rfl)) (by rw [hfs]; exact hsold.cells w.drew (fun _ _ _=>rfl)) hc0 (by simp only [maxLen] at hmax; omega)
         (by rw [hfb]; exact growslice_fits hc0 hbd)
        rw [← hcap] at hrun
        let imm2:Nat→Nat→Prop:=fun b off=>imm' b off ∨ ∃ c,g0=.tok b rows.length c j.size ex∧off < rows.length * j.size
        have hself:(G.bl.set o (.tok w.heap.size (rows.length + rows2.length) cap j.size ex))[o]?=some (.tok w.heap.size (rows.length + rows2.length) cap j.size ex):=by
         rw [List.getElem?_set,if_pos rfl,if_pos hlb]
        have hext:Ext ⟨G.bl,imm'⟩ w' ⟨G.bl.set o (.tok w.heap.size (rows.length + rows2.length) cap j.size ex),imm2⟩ w':=by
         refine Iv (G:=⟨G.bl,imm'⟩) (fun _ _ h=>.inl h) hg0 ?_ ?_
         ·intro b off hi
          rcases hi with hi | ⟨l,c,sz,h1,h2⟩
          ·exact .inl (.inl hi)
          ·have h1':G.bl[o]?=some (.tok b l c sz true):=h1
           rw [hg0] at h1'
           rcases hshape with rfl | ⟨b',c',rfl⟩
           ·cases h1'
           ·cases h1'; exact .inl (.inr ⟨_,rfl,h2⟩)
         ·rcases hshape with rfl | ⟨b,c,rfl⟩
          ·exact .inl ⟨_,rfl,.inr ⟨_,_,_,_,_,rfl,by omega⟩⟩
          ·exact .inr ⟨_,_,_,_,_,rfl,_,_,_,_,_,rfl,.inl (by omega)⟩
        refine ⟨.slice (some ⟨w.heap.size,0,none⟩) (rows.length + rows2.length) cap,.sl (rows ++ rows2) (.own o),objs.set o (.tok (rows.length + rows2.length) j.size e' ex),⟨G.bl.set o (.tok w.heap.size (rows.length + rows2.length) cap j.size ex),imm2⟩,w',?_,?_,?_,?_,hk⟩
        ·rw [hrun,hw']; simp
        ·refine ⟨hst.ext.trans hext,hst.heap,hst.size,hst.os,hst.tape,hst.output,?_,?_⟩
         ·intro b off hi
          rcases hi with hi | ⟨c,hc,_⟩
          ·exact hst.imm2 b off hi
          ·exact .inr (.inr ⟨o,g0,hg0,by rw [hc]; rfl⟩)
         ·intro o' g' b' hg' hb'
          rcases Bw hg' with ⟨rfl,rfl⟩ | ⟨_,hg'⟩
          ·simp [GB.blk] at hb'; exact .inl (by omega)
          ·exact .inr ⟨o',g',hg',hb'⟩
        ·refine Mem.own_set (G:=⟨G.bl,imm'⟩) hmem ?_ (.inr ⟨w.heap.size,cap,_,rfl,hhh,hcsz,hle,hcm,?_,?_⟩) hext ?_ ?_
         ·intro b hb
          simp [GB.blk] at hb
          subst hb
          refine ⟨by rw [hw']; simp,fun o' g' _ hg' hbb=>?_⟩
          have:=hm.lt o' g' _ hg' hbb
          omega
         ·intro hex off hi
          rcases hi with hi | ⟨c,hc,_⟩
          ·exact himm1 hex off hi
          ·have:=hm.lt o g0 w.heap.size hg0 (by rw [hc]; rfl)
           omega
         ·intro hex off hi
          rcases hi with hi | ⟨c,hc,_⟩
          ·exact (himm2 hex off).1 hi
          ·have:=hm.lt o g0 w.heap.size hg0 (by rw [hc]; rfl)
           omega
         ·intro b off hi
          rcases hi with hi | ⟨c,hc,_⟩
          ·exact hmem.immLt.1 b off hi
          ·exact hmem.lt o g0 b hg0 (by rw [hc]; rfl)
         ·intro o' g' b hne hg' hbb off hi
          rcases hi with hi | ⟨c,hc,_⟩
          ·exact hi
          ·exact (hne (hm.inj o' o g' g0 b hg' hg0 hbb (by rw [hc]; rfl))).elim
        ·refine .sl _ _ _ ⟨some ⟨w.heap.size,0,none⟩,cap,by rw [List.length_append],by rw [List.length_append]; exact hle,hcm,.inr ⟨w.heap.size,0,j.size,rfl,?_⟩⟩
          (.inr ⟨w.heap.size,rows.length + rows2.length,cap,j.size,ex,hself,by rw [List.length_append]; exact Nat.le_refl _,fun _=>rfl⟩)
         refine hra.mono (fun _ _ _=>rfl) ?_ (fun _ _ _=>rfl) (fun _ _ h=>.inl h)
         rintro b off (h | ⟨rfl,h⟩)
         ·exact .inl (.inl h)
         ·cases hex:ex
          ·exact .inl (.inl ((himm2 hex off).2 h))
          ·exact .inr ⟨_,_,_,by rw [← hex]; exact hself,h⟩
       cases hs with
       | sl _ _ _ hdc htk=>
        rcases htk with ⟨l,hl1,hl2,hl3⟩ | ⟨b,l,cap,sz,ex',hl1,hl2,hl3⟩
        ·
         have hok:=hm.ok o _ _ hob hl1
         have hll:l=rows.length:=by
          rcases hok with ⟨h,_⟩ | ⟨_,_,_,h,_⟩
          ·cases h; rfl
          ·cases h
         subst hll
         obtain ⟨a,rfl,hza⟩:=hl3 rfl
         by_cases hm0:rows2.length=0
         ·have h2:rows2=[]:=List.eq_nil_of_length_eq_zero hm0
          subst h2
          have hnews:news=[]:=List.eq_nil_of_length_eq_zero (by simpa using hsrc.flat.1)
          subst hnews
          have hrun:=Fo (P:=P) w t xt ty e' f pt dx hxt hdx hf vx 0 (fun w0=>by simpa using hsrc.len w0) a rows.length rows.length rfl (by rw [hfs]; exact hsrc.cells w (fun _ _ _=>rfl)) (Nat.le_refl _)
          refine ⟨_,_,_,G,w,hrun,bO.refl G w,?_,?_,hk⟩
          ·have:objs.set o (.tok (rows.length + ([]:List (List D)).length) j.size e' ex)=objs:=by
            simp only [List.length_nil,Nat.add_zero]
            exact fZ hob
           rw [this]; exact hm
          ·rw [List.append_nil]
           exact .sl rows _ _ hdc (.inl ⟨_,hl1,Nat.le_refl _,fun _=>⟨a,rfl,hza⟩⟩)
         ·exact hgrow a rows.length _ hdc (by omega) hl1 (.inl rfl) (by omega)
        ·
         have hok:=hm.ok o _ _ hob hl1
         rcases hok with ⟨h,_⟩ | ⟨b',cap',cur,h,hh,hcs,hlc,hcm,him1,him2⟩
         ·cases h
         ·cases h
          have hv:=hl3 rfl
          subst hv
          by_cases hroom:rows.length + rows2.length≤cap
          ·have holds:∃ olds,jJ w G.imm j.size rows olds∧cur.toList.take (rows.length * j.size)=olds:=by
            obtain ⟨a',c',he,_,_,hor⟩:=hdc
            by_cases hz0:rows=[]
            ·subst hz0; exact ⟨[],jJ.nil _ _ _,by simp⟩
            ·rcases hor with h0 | ⟨b2,st,sz,ha,hra⟩
             ·exact (hz0 h0).elim
             ·cases he; cases ha
              have hsz:sz=j.size:=by
               cases rows with
               | nil=>exact (hz0 rfl).elim
               | cons r rs=>rw [← hra.1 0 r rfl]; exact hr r (by simp)
              subst hsz
              obtain ⟨olds,hfl,hcl⟩:=hra.flat hs0
              refine ⟨olds,hfl,?_⟩
              apply List.ext_getElem?
              intro q
              rcases Nat.lt_or_ge q (rows.length * j.size) with hq | hq
              ·have hq':q < olds.length:=by rw [hfl.1]; exact hq
               have:=(hcl q _ (List.getElem?_eq_getElem hq')).1
               rw [lM hh,Nat.zero_add] at this
               rw [List.getElem?_take,if_pos hq,List.getElem?_eq_getElem hq',← this]
               simp
              ·rw [List.getElem?_eq_none (by simp; omega),List.getElem?_eq_none (by rw [hfl.1]; exact hq)]
           obtain ⟨olds,hfl,hcur⟩:=holds
           have hfit:rows.length * j.size + news.length≤cur.size:=by
            rw [hsrc.flat.1,hcs,← Nat.add_mul]; exact Nat.mul_le_mul_right _ hroom
           have hrun:=NR (P:=P) w t xt ty e' f pt dx hxt hdx hf vx rows2.length hsrc.len news b rows.length cap cur hh (by rw [hfs]; exact hsrc.cells w (fun _ _ _=>rfl)) hsrc.flat.2.1 hroom (by rw [hfs]; exact hfit)
           rw [hfs] at hrun
           obtain ⟨G',k0,k1,k2,k3⟩:=QV hm hall (hfl.append hr hsrc.flat) hfl.1 hob hl1 hh hcs hroom hcm him1 him2 hcur
           refine ⟨_,_,_,G',_,hrun,k1,k2,?_,hk⟩
           exact .sl _ _ _ ⟨some ⟨b,0,none⟩,cap,by rw [List.length_append],by rw [List.length_append]; exact hroom,hcm,.inr ⟨b,0,j.size,rfl,k3⟩⟩
            (.inr ⟨b,rows.length + rows2.length,cap,j.size,ex,k0,by rw [List.length_append]; exact Nat.le_refl _,fun _=>rfl⟩)
          ·exact hgrow _ cap _ hdc (by omega) hl1 (.inr ⟨b,cap,rfl⟩) (by omega)
      ·exact h.elim
     ·exact h.elim
    ·exact h.elim
   ·exact h.elim
  ·exact h.elim
 ·exact h.elim
theorem Mv {G:aL}{w:World}{x:AV}{d:D}{v:Value} (h:x.toD=some d) (hc:aR G w x v):eX w G.imm d v:=by
 unfold AV.toD at h
 split at h
 ·cases h; cases hc; exact .nil none 0 (by simp [maxLen])
 ·cases h
  cases hc with
  | v _ hx=>exact .v _ hx
 ·cases h
  cases hc with
  | sl _ _ _ hd _=>exact eX.sl_iff.2 hd
 ·cases h
  cases hc with
  | sl _ _ _ hd _=>exact eX.sl_iff.2 hd
 ·cases h
def sQ (sz:Nat) (out:List AV):Nat→Option (List (List D))
 | 0=>some []
 | n + 1=>
  match AV.toDs (out.take sz),sQ sz (out.drop sz) n with
  | some r,some rs=>some (r :: rs)
  | _,_=>none
theorem DS:∀ {xs:List AV}{ds:List D},AV.toDs xs=some ds→ds.length=xs.length∧∀ (i:Nat) (x:AV) (d:D),xs[i]?=some x→ds[i]?=some d→x.toD=some d
 | [],ds,h=>by cases h; exact ⟨rfl,fun i x d hx=>by simp at hx⟩
 | x :: xs,ds,h=>by
  simp only [AV.toDs] at h
  cases h1:x.toD with
  | none=>simp [h1] at h
  | some d=>
   cases h2:AV.toDs xs with
   | none=>simp [h1,h2] at h
   | some ds'=>
    simp only [h1,h2,Option.some.injEq] at h
    subst h
    obtain ⟨e1,e2⟩:=DS h2
    refine ⟨by simp [e1],fun i y d' hy hd=>?_⟩
    cases i with
    | zero=>simp at hy hd; subst hy; subst hd; exact h1
    | succ i=>exact e2 i y d' (by simpa using hy) (by simpa using hd)
theorem AW {G:aL}{w:World}{sz:Nat}:∀ (n:Nat) {out:List AV}{vs:List Value}{rows:List (List D)},sQ sz out n=some rows→out.length=n * sz→cQ G w out vs→nK vs →
  rows.length=n∧(∀ r ∈ rows,r.length=sz)∧jJ w G.imm sz rows vs
 | 0,out,vs,rows,h,hl,hc,_=>by
  cases h
  have:vs=[]:=List.eq_nil_of_length_eq_zero (by rw [hc.1,hl]; simp)
  subst this
  exact ⟨rfl,by simp,jJ.nil _ _ _⟩
 | n + 1,out,vs,rows,h,hl,hc,h1=>by
  simp only [sQ] at h
  cases hr:AV.toDs (out.take sz) with
  | none=>simp [hr] at h
  | some r=>
   cases hrs:sQ sz (out.drop sz) n with
   | none=>simp [hr,hrs] at h
   | some rs=>
    simp only [hr,hrs,Option.some.injEq] at h
    subst h
    have hmul:(n + 1) * sz=n * sz + sz:=by rw [Nat.add_mul,Nat.one_mul]
    obtain ⟨e1,e2⟩:=DS hr
    have hrl:r.length=sz:=by rw [e1]; simp; omega
    obtain ⟨k1,k2,k3⟩:=AW n (vs:=vs.drop sz) hrs (by simp; omega)
     ⟨by simp [hc.1],fun i x v hx hv=>hc.2 (sz + i) x v (by simpa using hx) (by simpa using hv)⟩ (fun i u hu=>h1 (sz + i) u (by simpa using hu))
    have hfirst:jJ w G.imm sz [r] (vs.take sz):=by
     refine ⟨by simp [hc.1]; omega,fun i u hu=>?_,fun i j r' d hr' hd=>?_⟩
     ·rw [List.getElem?_take] at hu
      split at hu
      ·exact h1 i u hu
      ·cases hu
     ·cases i with
      | zero=>
       simp at hr'; subst hr'
       have hj:j < sz:=by
        rw [← hrl]
        rcases Nat.lt_or_ge j r.length with hl | hl
        ·exact hl
        ·rw [List.getElem?_eq_none hl] at hd; cases hd
       have hjo:j < out.length:=by omega
       have hjv:j < vs.length:=by rw [hc.1]; exact hjo
       have hx:(out.take sz)[j]?=some out[j]:=by rw [List.getElem?_take,if_pos hj]; exact List.getElem?_eq_getElem hjo
       refine ⟨vs[j],?_,Mv (e2 j _ d hx hd) (hc.2 j _ _ (List.getElem?_eq_getElem hjo) (List.getElem?_eq_getElem hjv))⟩
       rw [Nat.zero_mul,Nat.zero_add,List.getElem?_take,if_pos hj]; exact List.getElem?_eq_getElem hjv
      | succ i=>simp at hr'
    refine ⟨by simp [k1],?_,?_⟩
    ·intro r' hr'
     rcases List.mem_cons.1 hr' with rfl | h'
     ·exact hrl
     ·exact k2 r' h'
    ·have:=jJ.append (rows:=[r]) (by intro r' hr'; simp at hr'; subst hr'; exact hrl) hfirst k3
     simpa using this
def sS (zero:List Value) (sz n:Nat):List AV:=(List.range (n * sz)).map fun q=>.v (zero.getD (q % sz) default)
def o6 (P:Program) (t:TypeId) (len:Nat) (parts:List (Nat × AV)) (k:AV→Prop):Prop :=
 match ti P t with
 | some i=>
  match i.desc with
  | .slice e=>
   match ti P e with
   | some j=>
    0 < j.size∧len * j.size≤16777216 ∧
    (match jZ (fun q=>some (q * j.size,j.size)) (sS j.zero j.size len) parts with
    | some out=>(match sQ j.size out len with | some rows=>k (.sl rows .exact) | none=>False)
    | none=>False)
   | none=>False
  | _=>False
 | none=>False
theorem xE {place:Nat→Option (Nat × Nat)}:∀ {parts:List (Nat × AV)}{cs out:List AV},jZ place cs parts=some out→out.length=cs.length
 | [],cs,out,h=>by cases h; rfl
 | (j,x) :: rest,cs,out,h=>by
  simp only [jZ] at h
  split at h
  ·split at h
   ·rw [xE h,mW]
   ·cases h
  ·cases h
theorem Ej {G:aL}{w:World}{P:Program}{t:TypeId}{j:TI} (hj:ti P t=some j) (hs:0 < j.size) (n:Nat) :
  cQ G w (sS j.zero j.size n) ((List.range (n * j.size)).map fun q=>j.zero.getD (q % j.size) default)∧nK ((List.range (n * j.size)).map fun q=>j.zero.getD (q % j.size) default):=by
 obtain ⟨_,f,z,_,_,_,_,_,hzl,ho⟩:=b5 hj
 have hone:∀ q,(j.zero.getD (q % j.size) default).oneCell'=true:=by
  intro q
  have hlt:q % j.size < j.zero.length:=by rw [hzl]; exact Nat.mod_lt _ hs
  rw [List.getD_eq_getElem?_getD,List.getElem?_eq_getElem hlt]
  exact ho _ (List.getElem_mem hlt)
 refine ⟨⟨by simp [sS],fun q x v hx hv=>?_⟩,fun q u hu=>?_⟩
 ·simp only [sS,List.getElem?_map] at hx hv
  cases hr:(List.range (n * j.size))[q]? with
  | none=>simp [hr] at hx
  | some q'=>
   simp only [hr,Option.map_some,Option.some.injEq] at hx hv
   subst hx; subst hv
   exact .v _ (hone q')
 ·simp only [List.getElem?_map] at hu
  cases hr:(List.range (n * j.size))[q]? with
  | none=>simp [hr] at hu
  | some q'=>
   simp only [hr,Option.map_some,Option.some.injEq] at hu
   subst hu
   exact hone q'
theorem zV (z:Array Value) (l:List Value) (hz:z=l.toArray) (sz:Nat) (n:Nat):(Array.range n).map (fun q=>z[q % sz]!)=((List.range n).map fun q=>l.getD (q % sz) default).toArray:=by
 subst hz
 apply Array.ext'
 simp [List.getD_eq_getElem?_getD]
theorem GH {P:Program}{G:aL}{objs:List Obj}{w:World}{t:TypeId}{len:Nat}{parts:List (Nat × AV)}{vparts:List (Nat × Value)}{k:AV→Prop}
  (h:o6 P t len parts k) (hm:Mem G objs w) (hl:parts.length=vparts.length)
  (hp:∀ (i:Nat) (p:Nat × AV) (q:Nat × Value),parts[i]?=some p→vparts[i]?=some q→p.1=q.1∧aR G w p.2 q.2) :
  ∃ r y G' w',(Instr.buildSlice t len vparts.toArray).run P w=.ok r w'∧bO G w G' w'∧Mem G' objs w'∧aR G' w' y r∧k y:=by
 unfold o6 at h
 split at h
 ·rename_i i hi
  split at h
  ·rename_i e hd
   split at h
   ·rename_i j hj
    obtain ⟨hs0,hbig,h⟩:=h
    split at h
    ·rename_i out hout
     split at h
     ·rename_i rows hrows
      have hu:=eH hi w
      rw [hd] at hu
      obtain ⟨z,hz,hzc⟩:=ET hj w
      obtain ⟨z1,z2⟩:=Ej (G:=G) (w:=w) hj hs0 len
      obtain ⟨res,hr,hr2,hr3⟩:=xT hl hp z1 z2 hout
      have hol:out.length=len * j.size:=by rw [xE hout]; simp [sS]
      obtain ⟨k1,k2,k3⟩:=AW len hrows hol hr2 hr3
      obtain ⟨s1,s2⟩:=gP.step hm ((gP.refl w).alloc (.cells res.toArray e)) (imm':=fun b off=>G.imm b off ∨ (b=w.heap.size∧off < len * j.size)) (fun _ _ h=>.inl h) (fun b off h=>by
       rcases h with h | ⟨rfl,_⟩
       ·exact .inl h
       ·exact .inr ⟨Nat.le_refl _,by simp⟩)
      have hzl:=(b5 hj).2
      refine ⟨.slice (some ⟨w.heap.size,0,none⟩) len len,.sl rows .exact,_,_,?_,s1,s2,?_,h⟩
      ·have hsz:j.zero.length=j.size:=by obtain ⟨f,z',_,_,_,_,_,hh,_⟩:=hzl; exact hh
       have hzs:z.cells.size=j.size:=by rw [hzc]; simp [hsz]
       have hbig':¬ (len * j.size > 2 ^ 24):=by omega
       simp only [Instr.buildSlice,Sem.run_bind,hu,Result.andThen_ok,dL hj,Sem.run_ite,if_neg hbig',Sem.run_pure]
       have hfill:Instr.fill (fun q=>some (q * j.size,j.size)) ((Array.range (len * j.size)).map fun q=>(if len * j.size=0 then (#[]:Array Value) else z.cells)[q % (if len * j.size=0 then (#[]:Array Value) else z.cells).size]!) vparts=some res.toArray:=by
        rw [← hr]
        congr 1
        by_cases h0:len * j.size=0
        ·simp [h0]
        ·rw [if_neg h0,hzs]
         exact zV z.cells j.zero hzc j.size (len * j.size)
       by_cases h0:len * j.size=0
       ·rw [if_pos h0] at hfill
        simp only [if_pos h0,Sem.run_pure,Result.andThen_ok,hfill]
        rfl
       ·rw [if_neg h0] at hfill
        simp only [if_neg h0,Sem.run_bind,hz,Sem.run_pure,Result.andThen_ok,hfill]
        rfl
      ·refine .sl rows .exact _ ?_ ⟨_,by rw [k1]⟩
       refine ⟨some ⟨w.heap.size,0,none⟩,len,by rw [k1],by omega,?_,.inr ⟨w.heap.size,0,j.size,rfl,?_⟩⟩
       ·have:len≤len * j.size:=Nat.le_mul_of_pos_right _ hs0
        simp only [maxLen]; omega
       ·refine jJ.rowsAt k2 (k3.mono s1.ext.cell s1.ext.imm) ?_ ?_
        ·intro q u hq
         rw [lM (eG w _),Nat.zero_add]
         simpa using hq
        ·intro q hq
         rw [Nat.zero_add]
         exact .inr ⟨rfl,by rw [← k1]; exact hq⟩
     ·exact h.elim
    ·exact h.elim
   ·exact h.elim
  ·exact h.elim
 ·exact h.elim
def u9 (P:Program) (t:TypeId) (objs:List Obj) (l c:AV) (k:AV→List Obj→Prop):Prop :=
 match ti P t,l,c with
 | some i,.v (.int _ n),.v (.int _ m)=>
  match i.desc with
  | .slice e=>
   match ti P e with
   | some j=>0 < j.size∧m=n∧0≤n∧n≤9223372036854775807∧n.toNat * j.bytes≤281474976710656∧k (.bsl objs.length 0 n.toNat) (objs ++ [.box (sS j.zero j.size n.toNat)])
   | none=>False
  | _=>False
 | _,_,_=>False
theorem HG {P:Program}{G:aL}{objs:List Obj}{w:World}{t:TypeId}{l c:AV}{vl vc:Value}{k:AV→List Obj→Prop}
  (h:u9 P t objs l c k) (hm:Mem G objs w) (hl:aR G w l vl) (hc:aR G w c vc) :
  ∃ r y objs' G' w',(Instr.makeSlice t vl vc).run P w=.ok r w'∧bO G w G' w'∧Mem G' objs' w'∧aR G' w' y r∧k y objs':=by
 unfold u9 at h
 split at h
 ·rename_i i q n q' m hi
  split at h
  ·rename_i e hd
   split at h
   ·rename_i j hj
    obtain ⟨hs0,rfl,h0,hmx,hb,hk⟩:=h
    cases hl; cases hc
    have hu:=eH hi w
    rw [hd] at hu
    obtain ⟨_,f,z,hf,hz,hfs,hfb,hzc,hzl,_⟩:=b5 hj
    obtain ⟨z1,z2⟩:=Ej (G:=G) (w:=w) hj hs0 m.toNat
    obtain ⟨G',s1,s2,s3⟩:=GG hm z1 z2 e
    have hw:IntKind.i64.wrap m=m:=IntWalk.i64_in m (by omega)
    refine ⟨.slice (some ⟨w.heap.size,0,none⟩) m.toNat m.toNat,_,_,G',_,?_,s1,s2,?_,hk⟩
    ·have hb':¬ ((j.bytes:Int) * m > 281474976710656):=by
      have hm':((m.toNat:Nat):Int)=m:=Int.toNat_of_nonneg h0
      have e1:(j.bytes:Int) * m=((m.toNat * j.bytes:Nat):Int):=by rw [Int.natCast_mul,hm',Int.mul_comm]
      rw [e1]; omega
     have hn0:¬ (m < 0):=by omega
     have hmm:¬ (m > m):=by omega
     have hzs:z.cells.size=j.size:=by rw [hzc]; simp [hzl]
     have hrow:=zV z.cells j.zero hzc j.size (m.toNat * j.size)
     by_cases hz0:m.toNat * j.size=0
     ·simp [Instr.makeSlice,hu,asInt,asIntOf,typeInfo,hf,hfb,hw,hb',hn0,hmm,sizeOf,hfs,hz0,newRow]
      exact congrArg (fun c=>w.alloc (Go.Obj.cells c e)) (by apply Array.ext'; simp)
     ·simp [Instr.makeSlice,hu,asInt,asIntOf,typeInfo,hf,hfb,hw,hb',hn0,hmm,sizeOf,hfs,hz0,newRow,zeroValue,hz,hzs,hrow]
    ·cases s3 with
     | ptr _ _ b hbb=>exact .bsl _ _ _ _ _ hbb (Nat.le_refl _) (by simp only [maxLen]; omega)
   ·exact h.elim
  ·exact h.elim
 ·exact h.elim
def eE:List Value→List Value→Bool
 | [],[]=>true
 | .string a :: xs,.string b :: ys=>decide (a=b) && eE xs ys
 | _,_=>false
def cU:List Value→Bool
 | []=>true
 | .string _ :: xs=>cU xs
 | _=>false
theorem uG:∀ {us:List Value}{i:Nat}{v:Value},cU us=true→us[i]?=some v→∃ a,v=.string a
 | [],i,v,_,h=>by simp at h
 | x :: us,i,v,hs,h=>by
  cases x <;> simp [cU] at hs
  cases i with
  | zero=>simp at h; exact ⟨_,h.symm⟩
  | succ i=>exact uG hs (by simpa using h)
theorem rG:∀ {us:List Value} (n:Nat),cU us=true→cU (us.drop n)=true
 | us,0,h=>by simpa using h
 | [],n + 1,_=>by simp [cU]
 | x :: us,n + 1,h=>by
  cases x <;> simp [cU] at h
  simpa using rG n h
theorem rE:∀ {us:List Value} (n:Nat),cU us=true→cU (us.take n)=true
 | us,0,h=>by simp [cU]
 | [],n + 1,_=>by simp [cU]
 | x :: us,n + 1,h=>by
  cases x <;> simp [cU] at h
  simpa [cU] using rE n h
theorem Fq:∀ {us vs:List Value},cU us=true→(eE us vs=true ↔ us=vs)
 | [],[],_=>by simp [eE]
 | [],_ :: _,_=>by simp [eE]
 | x :: us,[],h=>by cases x <;> simp [eE]
 | x :: us,y :: vs,h=>by
  cases x <;> simp [cU] at h
  cases y <;> simp [eE]
  rw [Fq h]
  exact fun _=>Iff.rfl
theorem Hd:∀ {us vs:List Value},eE us vs=true→us=vs
 | [],[],_=>rfl
 | [],_ :: _,h=>by simp [eE] at h
 | x :: us,[],h=>by cases x <;> simp [eE] at h
 | x :: us,y :: vs,h=>by
  cases x <;> cases y <;> simp [eE] at h
  rw [h.1,Hd h.2]
theorem DB:∀ (n:Nat) {us vs:List Value},us.length=vs.length→eE us vs=(eE (us.take n) (vs.take n) && eE (us.drop n) (vs.drop n))
 | 0,us,vs,_=>by simp [eE]
 | n + 1,[],[],_=>by simp [eE]
 | n + 1,[],_ :: _,h=>by simp at h
 | n + 1,_ :: _,[],h=>by simp at h
 | n + 1,x :: us,y :: vs,h=>by
  have ih:=DB n (us:=us) (vs:=vs) (by simpa using h)
  cases x <;> cases y <;> simp [eE]
  rw [ih,Bool.and_assoc]
def PG (P:Program) (t:TypeId):Bool :=
 match ti P t with
 | some i=>(match i.desc with | .string=>true | _=>false) && i.size == 1
 | none=>false
theorem FZ {P:Program}{t:TypeId} (h:PG P t=true):P.underlying t=some .string:=by
 unfold PG at h
 split at h
 ·rename_i i hi
  have:=(b5 hi).1
  cases hd:i.desc <;> simp [hd] at h
  rw [this,hd]
 ·cases h
theorem GA {P:Program}{w:World}{t:TypeId} (h:PG P t=true) {cs:List Value}{off:Nat}{v:Value} (hv:cs[off]?=some v):(part t cs.toArray off).run P w=.ok v w:=by
 have hu:=run_underlying (w:=w) (FZ h)
 simp [part,isAgg,hu,hv]
def tJ (P:Program):Nat→List Field→Bool
 | _,[]=>true
 | n,f :: fs=>f.name != "_" && f.offset == n && PG P f.type && tJ P (n + 1) fs
def nU (P:Program) (t:TypeId):TypeDesc→Option Nat
 | .array len e=>
  match ti P e with
  | some ie=>
   match ie.desc with
   | .struct fs=>if P.stoodInHeld e=false∧ie.size=fs.toList.length∧tJ P 0 fs.toList=true then some (len * fs.toList.length) else none
   | _=>none
  | none=>none
 | .struct fs=>(match ti P t with
  | some i=>if P.stoodInHeld t=false∧i.size=fs.toList.length∧tJ P 0 fs.toList=true then some fs.toList.length else none
  | none=>none)
 | _=>none
theorem Na {P:Program}{w:World}{m:Nat}:∀ (fs:List Field) (n:Nat) (us vs:List Value),tJ P n fs=true→cU us=true→cU vs=true→us.length=n + fs.length→vs.length=n + fs.length →
  (Op.eqFields (m + 1) us.toArray vs.toArray fs).run P w=.ok (eE (us.drop n) (vs.drop n)) w
 | [],n,us,vs,_,_,_,hu,hv=>by
  rw [List.drop_eq_nil_of_le (by simp at hu; omega),List.drop_eq_nil_of_le (by simp at hv; omega)]
  rfl
 | f :: fs,n,us,vs,h,hsu,hsv,hu,hv=>by
  simp only [tJ,Bool.and_eq_true,bne_iff_ne,ne_eq,beq_iff_eq] at h
  obtain ⟨⟨⟨h1,h2⟩,h3⟩,h4⟩:=h
  simp only [List.length_cons] at hu hv
  have lu:n < us.length:=by omega
  have lv:n < vs.length:=by omega
  obtain ⟨a,ha⟩:=uG hsu (List.getElem?_eq_getElem lu)
  obtain ⟨b,hb⟩:=uG hsv (List.getElem?_eq_getElem lv)
  have p1:=GA (w:=w) h3 (cs:=us) (off:=n) (v:=.string a) (by rw [List.getElem?_eq_getElem lu,ha])
  have p2:=GA (w:=w) h3 (cs:=vs) (off:=n) (v:=.string b) (by rw [List.getElem?_eq_getElem lv,hb])
  have he:=run_equalIn_string w m f.type a b (FZ h3)
  have ih:=Na (w:=w) (m:=m) fs (n + 1) us vs h4 hsu hsv (by omega) (by omega)
  rw [List.drop_eq_getElem_cons lu,List.drop_eq_getElem_cons lv,ha,hb]
  simp only [Op.eqFields,h1,ne_eq,not_false_eq_true,if_true,Sem.run_bind,h2,p1,p2,he,Result.andThen_ok,eE]
  rw [CK]
  by_cases hab:a=b
  ·simp [hab,ih]
  ·simp [hab]
theorem w8 {P:Program}{t:TypeId}{d:TypeDesc}{n:Nat} (h:nU P t d=some n) :
  (∃ fs i,d=.struct fs∧ti P t=some i∧P.stoodInHeld t=false∧i.size=fs.toList.length∧tJ P 0 fs.toList=true∧n=fs.toList.length) ∨ ∃ len e ie fs,d=.array len e∧ti P e=some ie∧ie.desc=.struct fs∧P.stoodInHeld e=false∧ie.size=fs.toList.length∧tJ P 0 fs.toList=true∧n=len * fs.toList.length:=by
 unfold nU at h
 split at h
 ·rename_i len e
  split at h
  ·rename_i ie hie
   split at h
   ·rename_i fs hd
    split at h
    ·rename_i hc
     exact .inr ⟨len,e,ie,fs,rfl,hie,hd,hc.1,hc.2.1,hc.2.2,(Option.some.inj h).symm⟩
    ·cases h
   ·cases h
  ·cases h
 ·rename_i fs
  split at h
  ·rename_i i hi
   split at h
   ·rename_i hc
    exact .inl ⟨fs,i,rfl,hi,hc.1,hc.2.1,hc.2.2,(Option.some.inj h).symm⟩
   ·cases h
  ·cases h
 ·cases h
section
variable {P:Program}{e:TypeId}{ie:TI}{fs:Array Field} (h1:ti P e=some ie) (h2:ie.desc=.struct fs) (h3:P.stoodInHeld e=false) (h4:ie.size=fs.toList.length) (h5:tJ P 0 fs.toList=true)
include h1 h2 h4
theorem M0 (w:World) {us:List Value}{off:Nat}:(part e us.toArray off).run P w=.ok (.agg ((us.drop off).take fs.toList.length).toArray) w:=by
 obtain ⟨hu,f,z,hf,_,hs,_⟩:=b5 h1
 have hc:P.cellsOf e=fs.toList.length:=by simp [Program.cellsOf,hf,hs,h4]
 rw [h2] at hu
 have hl:us.toArray.extract off (off + P.cellsOf e)=((us.drop off).take fs.toList.length).toArray:=by
  apply Array.ext'
  rw [Array.toList_extract,hc]
  simp [List.extract]
 rw [← hl]
 simp [part,isAgg,run_underlying hu,run_sizeOf w hf]
include h3 h5
theorem Tn (w:World) (m:Nat) {us vs:List Value} (hsu:cU us=true) (hsv:cU vs=true) (hu:us.length=fs.toList.length) (hv:vs.length=fs.toList.length) :
  (Op.equalIn (m + 2) e (.agg us.toArray) (.agg vs.toArray)).run P w=.ok (eE us vs) w:=by
 have hp:=(b5 h1).1
 rw [h2] at hp
 have hf:P.fieldsOf e=fs:=by simp [Program.fieldsOf,hp]
 rw [run_equalIn_struct w (m + 1) e _ _ (by rw [hf]; exact hp) h3,hf]
 simpa using Na (w:=w) (m:=m) fs.toList 0 us vs h5 hsu hsv (by simpa using hu) (by simpa using hv)
theorem FL (w:World) (m:Nat) {us vs:List Value} (hsu:cU us=true) (hsv:cU vs=true):∀ (k s:Nat),us.length=(s + k) * fs.toList.length→vs.length=(s + k) * fs.toList.length →
  (Op.eqItems (m + 2) e fs.toList.length us.toArray vs.toArray (List.range' s k)).run P w=.ok (eE (us.drop (s * fs.toList.length)) (vs.drop (s * fs.toList.length))) w
 | 0,s,hu,hv=>by
  rw [List.drop_eq_nil_of_le (by rw [hu,Nat.add_zero]; exact Nat.le_refl _),List.drop_eq_nil_of_le (by rw [hv,Nat.add_zero]; exact Nat.le_refl _)]
  rfl
 | k + 1,s,hu,hv=>by
  have hsum:(s + (k + 1)) * fs.toList.length=s * fs.toList.length + fs.toList.length + k * fs.toList.length:=by
   rw [Nat.add_mul,Nat.add_mul,Nat.one_mul]; omega
  have ih:=FL w m hsu hsv k (s + 1) (by rw [hu]; congr 1; omega) (by rw [hv]; congr 1; omega)
  have hrow:=Tn h1 h2 h3 h4 h5 w m (us:=(us.drop (s * fs.toList.length)).take fs.toList.length) (vs:=(vs.drop (s * fs.toList.length)).take fs.toList.length)
   (rE _ (rG _ hsu)) (rE _ (rG _ hsv)) (by simp only [List.length_take,List.length_drop]; omega) (by simp only [List.length_take,List.length_drop]; omega)
  rw [List.range'_succ]
  simp only [Op.eqItems,Sem.run_bind,M0 h1 h2 h4,Result.andThen_ok,hrow]
  rw [DB fs.toList.length (us:=us.drop (s * fs.toList.length)) (by simp only [List.length_drop]; omega)]
  simp only [List.drop_drop]
  rw [show s * fs.toList.length + fs.toList.length=(s + 1) * fs.toList.length from by rw [Nat.add_mul,Nat.one_mul]]
  cases eE ((us.drop (s * fs.toList.length)).take fs.toList.length) ((vs.drop (s * fs.toList.length)).take fs.toList.length)
  ·simp
  ·simpa using ih
end
theorem NU {P:Program} (w:World) {t:TypeId}{i:TI}{n:Nat} (ht:ti P t=some i) (hn:nU P t i.desc=some n) {us vs:List Value} (hsu:cU us=true) (hsv:cU vs=true) (hu:us.length=n) (hv:vs.length=n) :
  (Op.equal t (.agg us.toArray) (.agg vs.toArray)).run P w=.ok (eE us vs) w:=by
 rcases w8 hn with ⟨fs,i',hd,hi',h3,h4,h5,rfl⟩ | ⟨len,e,ie,fs,hd,h1,h2,h3,h4,h5,rfl⟩
 ·rw [ht] at hi'; cases hi'
  exact Tn ht hd h3 h4 h5 w 9998 hsu hsv hu hv
 have hp:=(b5 ht).1
 rw [hd] at hp
 obtain ⟨_,f,z,hf,_,hs,_⟩:=b5 h1
 have hc:P.cellsOf e=fs.toList.length:=by simp [Program.cellsOf,hf,hs,h4]
 rw [Op.equal,show Op.maxDepth=9997 + 2 + 1 from rfl,run_equalIn_array w (9997 + 2) _ _ hp hf,hc,List.range_eq_range']
 simpa using FL h1 h2 h3 h4 h5 w 9997 hsu hsv len 0 (by simpa using hu) (by simpa using hv)
theorem Ng {P:Program} (w:World) (m:Nat) {e:TypeId}{fs:Array Field} (hpe:P.underlying e=some (.struct fs)) (h5:tJ P 0 fs.toList=true) (em:Bool) (xs:List Value) (hx:cU xs=true) (hl:xs.length=fs.toList.length) :
  (Instr.checkKey em (m + 2) e (.agg xs.toArray)).run P w=.ok () w:=by
  rw [show m + 2=(m + 1) + 1 from rfl,Instr.checkKey]
  simp only [Sem.run_bind,run_underlying hpe,Result.andThen_ok]
  rw [← Array.forIn_toList]
  obtain ⟨n,hn0⟩:∃ n:Nat,n=0:=⟨0,rfl⟩
  have h5':tJ P n fs.toList=true:=by rw [hn0]; exact h5
  have hl':xs.length=n + fs.toList.length:=by rw [hn0,Nat.zero_add]; exact hl
  clear hn0 h5 hl hpe
  generalize fs.toList=L at h5' hl'
  induction L generalizing n with
  | nil=>simp
  | cons f L ih=>
   simp only [tJ,Bool.and_eq_true,bne_iff_ne,ne_eq,beq_iff_eq] at h5'
   obtain ⟨⟨⟨k1,k2⟩,k3⟩,k4⟩:=h5'
   simp only [List.length_cons] at hl'
   have lu:n < xs.length:=by omega
   obtain ⟨a,ha⟩:=uG hx (List.getElem?_eq_getElem lu)
   have p1:=GA (w:=w) k3 (cs:=xs) (off:=n) (v:=.string a) (by rw [List.getElem?_eq_getElem lu,ha])
   have p2:(Instr.checkKey em (m + 1) f.type (.string a)).run P w=.ok () w:=by
    rw [Instr.checkKey]; simp [run_underlying (FZ k3)]
   simp only [List.forIn_cons,Sem.run_bind,k1,ne_eq,not_false_eq_true,if_true,Result.andThen_ok,k2,p1,p2,Sem.run_pure]
   exact ih (n + 1) k4 (by omega)
theorem JC {P:Program} (w:World) {t:TypeId}{i:TI}{n:Nat} (ht:ti P t=some i) (hn:nU P t i.desc=some n) {us:List Value} (hsu:cU us=true) (hu:us.length=n) (em:Bool) :
  (Instr.checkKey em 10000 t (.agg us.toArray)).run P w=.ok () w:=by
 rcases w8 hn with ⟨fs,i',hd,hi',h3,h4,h5,rfl⟩ | ⟨len,e,ie,fs,hd,h1,h2,h3,h4,h5,rfl⟩
 ·rw [ht] at hi'; cases hi'
  have hp:=(b5 ht).1
  rw [hd] at hp
  exact Ng w 9998 hp h5 em us hsu hu
 have hp:=(b5 ht).1
 rw [hd] at hp
 obtain ⟨hpe,f,z,hf,_,hs,_⟩:=b5 h1
 have hc:P.cellsOf e=fs.toList.length:=by simp [Program.cellsOf,hf,hs,h4]
 rw [h2] at hpe
 have row:∀ (xs:List Value),cU xs=true→xs.length=fs.toList.length→(Instr.checkKey em 9999 e (.agg xs.toArray)).run P w=.ok () w:=fun xs hx hl=>Ng w 9997 hpe h5 em xs hx hl
 rw [show (10000:Nat)=9999 + 1 from rfl,Instr.checkKey]
 simp only [Sem.run_bind,run_underlying hp,Result.andThen_ok]
 simp only [Std.Legacy.Range.forIn_eq_forIn_range',Std.Legacy.Range.size,Nat.sub_zero,Nat.add_one_sub_one,Nat.div_one]
 have each:∀ j ∈ List.range' 0 len,(j + 1) * fs.toList.length≤us.length:=by
  intro j hj
  simp only [List.mem_range'_1] at hj
  rw [hu]
  exact Nat.mul_le_mul_right _ (by omega)
 generalize List.range' 0 len=is at each
 induction is with
 | nil=>simp
 | cons j is ih=>
  have hj:=each j (by simp)
  have hr:=row ((us.drop (j * fs.toList.length)).take fs.toList.length) (rE _ (rG _ hsu)) (by
   simp only [List.length_take,List.length_drop]
   rw [Nat.add_mul,Nat.one_mul] at hj
   omega)
  simp only [List.forIn_cons,Sem.run_bind,run_sizeOf w hf,Result.andThen_ok,hc,M0 h1 h2 h4,hr,Sem.run_pure]
  exact ih (fun y hy=>each y (by simp [hy]))
theorem Bc {P:Program}{t:TypeId}{d:TypeDesc}{n:Nat} (h:nU P t d=some n):(∃ fs,d=.struct fs) ∨ ∃ l e,d=.array l e:=by
 rcases w8 h with ⟨fs,_,hd,_⟩ | ⟨l,e,_,_,hd,_⟩
 ·exact .inl ⟨fs,hd⟩
 ·exact .inr ⟨l,e,hd⟩
def nT (d:TypeDesc) (k:Value):Bool :=
 match d,k with
 | .string,.string _=>true
 | .int q,.int q' _=>q == q'
 | _,_=>false
def lI:Value→Value→Bool
 | .string a,.string b=>decide (a=b)
 | .int q a,.int q' b=>q == q' && decide (a=b)
 | .agg a,.agg b=>eE a.toList b.toList
 | _,_=>false
def CS (es:List (Value × AV)) (k:Value):Option AV :=
 match es with
 | []=>none
 | e :: es=>if lI k e.1 then some e.2 else CS es k
def Ey (es:List (Value × AV)) (k:Value) (x:AV):List (Value × AV) :=
 match es with
 | []=>[(k,x)]
 | e :: es=>if lI k e.1 then (k,x) :: es else e :: Ey es k x
def EB (es:List (Value × AV)) (k:Value):List (Value × AV) :=
 match es with
 | []=>[]
 | e :: es=>if lI k e.1 then es else e :: EB es k
def HI (d:TypeDesc) (es:List (Value × AV)):Prop:=∀ e ∈ es,nT d e.1=true
theorem L1 (a b:ByteArray):(a == b)=decide (a=b):=by
 rw [Bool.eq_iff_iff,decide_eq_true_iff]
 constructor
 ·intro h
  have:(a.data == b.data)=true:=h
  have:=eq_of_beq this
  cases a; cases b; simpa using this
 ·intro h
  subst h
  show (a.data == a.data)=true
  simp
theorem PK {d:TypeDesc}{a b:Value} (ha:nT d a=true) (hb:nT d b=true):Instr.sameNow d a b=some (lI a b):=by
 cases d <;> cases a <;> first | (simp [nT] at ha; done) | skip
 ·cases b <;> first | (simp [nT] at hb; done) | skip
  simp only [nT,beq_iff_eq] at ha hb
  subst ha; subst hb
  simp only [Instr.sameNow,lI,beq_self_eq_true,Bool.true_and]
  congr 1
 ·cases b <;> first | (simp [nT] at hb; done) | skip
  simp [Instr.sameNow,lI,L1]
def eP (es:List (Value × AV)) (k:Value) (n:Nat):Option Nat :=
 match es with
 | []=>none
 | e :: es=>if lI k e.1 then some n else eP es k (n + 1)
theorem Cp {d:TypeDesc}{k:Value} (hk:nT d k=true):∀ (es:List (Value × AV)) (ents:List MapEntry) (n:Nat),HI d es→ents.length=es.length →
  (∀ (i:Nat) (p:Value × AV) (e:MapEntry),es[i]?=some p→ents[i]?=some e→e.key=p.1) →
  Instr.findNow d k ents n=some ((eP es k n).bind fun i=>(ents[i - n]?).map fun e=>(i,e.val))
 | [],ents,n,_,hl,_=>by
  have:ents=[]:=List.eq_nil_of_length_eq_zero (by simpa using hl)
  subst this; rfl
 | p :: es,[],n,_,hl,_=>by simp at hl
 | p :: es,e :: ents,n,hks,hl,h=>by
  have hp:=h 0 p e rfl rfl
  have hsn:=PK hk (hks p (by simp))
  simp only [Instr.findNow,hp,hsn,eP]
  cases hb:lI k p.1
  ·simp only [Bool.false_eq_true,if_false]
   rw [Cp hk es ents (n + 1) (fun e he=>hks e (by simp [he])) (by simpa using hl) (fun i p' e' h1 h2=>h (i + 1) p' e' (by simpa using h1) (by simpa using h2))]
   congr 1
   cases hf:eP es k (n + 1) with
   | none=>rfl
   | some i=>
    have hge:n + 1≤i:=by
     have:∀ (l:List (Value × AV)) (m j:Nat),eP l k m=some j→m≤j:=by
      intro l
      induction l with
      | nil=>intro m j hh; simp [eP] at hh
      | cons q l ih=>
       intro m j hh
       simp only [eP] at hh
       split at hh
       ·cases hh; exact Nat.le_refl _
       ·have:=ih (m + 1) j hh; omega
     exact this es _ _ hf
    simp only [Option.bind_some]
    rw [show i - n=(i - (n + 1)) + 1 from by omega]
    simp
  ·simp
theorem Ia (es:List (Value × AV)) (k:Value) (n:Nat):CS es k=(eP es k n).bind fun i=>(es[i - n]?).map (·.2):=by
 induction es generalizing n with
 | nil=>rfl
 | cons p es ih=>
  simp only [CS,eP]
  split
  ·simp
  ·rw [ih (n + 1)]
   cases hf:eP es k (n + 1) with
   | none=>rfl
   | some i=>
    have hge:n + 1≤i:=by
     have:∀ (l:List (Value × AV)) (m j:Nat),eP l k m=some j→m≤j:=by
      intro l
      induction l with
      | nil=>intro m j hh; simp [eP] at hh
      | cons q l ih=>
       intro m j hh
       simp only [eP] at hh
       split at hh
       ·cases hh; exact Nat.le_refl _
       ·have:=ih (m + 1) j hh; omega
     exact this es _ _ hf
    simp only [Option.bind_some]
    rw [show i - n=(i - (n + 1)) + 1 from by omega]
    simp
theorem rN {k:Value}:∀ (es:List (Value × AV)) (n i:Nat),eP es k n=some i→n≤i∧i - n < es.length∧∃ p,es[i - n]?=some p∧lI k p.1=true
 | [],n,i,h=>by simp [eP] at h
 | p :: es,n,i,h=>by
  simp only [eP] at h
  split at h
  ·rename_i hb
   cases h
   exact ⟨Nat.le_refl _,by simp,p,by simp,hb⟩
  ·obtain ⟨h1,h2,q,h3,h4⟩:=rN es (n + 1) i h
   refine ⟨by omega,by simp; omega,q,?_,h4⟩
   rw [show i - n=(i - (n + 1)) + 1 from by omega]
   simpa using h3
theorem Ii (k:Value) (x:AV):∀ (es:List (Value × AV)) (n:Nat),Ey es k x=(match eP es k n with | some i=>es.set (i - n) (k,x) | none=>es ++ [(k,x)])
 | [],n=>rfl
 | p :: es,n=>by
  simp only [Ey,eP]
  split
  ·simp
  ·rw [Ii k x es (n + 1)]
   cases hf:eP es k (n + 1) with
   | none=>rfl
   | some i=>
    have:=(rN es (n + 1) i hf).1
    simp only
    rw [show i - n=(i - (n + 1)) + 1 from by omega]
    rfl
def yZ (P:Program) (t:TypeId) (d:TypeDesc) (k:Value):Prop:=nT d k=true ∨ ∃ cs:List Value,k=.agg cs.toArray∧nU P t d=some cs.length∧cU cs=true
def unV:List AV→Option (List Value)
 | []=>some []
 | .v x :: l=>(unV l).map (x :: ·)
 | _=>none
def s8:AV→Option Value
 | .v x=>some x
 | .agg cs=>(unV cs).map fun l=>.agg l.toArray
 | _=>none
theorem MY {G:aL}{w:World}:∀ {cs:List AV}{l vs:List Value},unV cs=some l→vs.length=cs.length→(∀ (i:Nat) (c:AV) (v:Value),cs[i]?=some c→vs[i]?=some v→aR G w c v)→vs=l
 | [],l,vs,h,hl,_=>by cases h; exact List.eq_nil_of_length_eq_zero (by simpa using hl)
 | c :: cs,l,[],h,hl,_=>by simp at hl
 | c :: cs,l,v :: vs,h,hl,hc=>by
  cases c <;> simp [unV] at h
  obtain ⟨l',h1,rfl⟩:=h
  have h0:=r6 (hc 0 _ v rfl rfl)
  have e:vs=l':=MY h1 (by simpa using hl) (fun i c v' a b=>hc (i + 1) c v' (by simpa using a) (by simpa using b))
  rw [e,h0]
theorem DM {G:aL}{w:World}{k:AV}{kv v:Value} (h:s8 k=some kv) (hc:aR G w k v):v=kv:=by
 unfold s8 at h
 split at h
 ·cases h; exact r6 hc
 ·cases hc with
  | agg _ vs h1 h2 h3=>
   simp only [Option.map_eq_some_iff] at h
   obtain ⟨l,h4,rfl⟩:=h
   rw [MY h4 h1 h3]
 ·cases h
theorem Dk {P:Program}{w:World}{kt:TypeId}{ki:TI} (h:ti P kt=some ki) {us:List Value} (hn:nU P kt ki.desc=some us.length) (hs:cU us=true):∀ (es:List (Value × AV)) (ents:List MapEntry) (n:Nat),(∀ e ∈ es,yZ P kt ki.desc e.1)→ents.length=es.length →
  (∀ (i:Nat) (p:Value × AV) (e:MapEntry),es[i]?=some p→ents[i]?=some e→e.key=p.1) →
  (Instr.findAsking kt (.agg us.toArray) ents n).run P w=.ok ((eP es (.agg us.toArray) n).bind fun i=>(ents[i - n]?).map fun e=>(i,e.val)) w
 | [],ents,n,_,hl,_=>by
  have:ents=[]:=List.eq_nil_of_length_eq_zero (by simpa using hl)
  subst this; rfl
 | p :: es,[],n,_,hl,_=>by simp at hl
 | p :: es,e :: ents,n,hks,hl,hh=>by
  have hp:=hh 0 p e rfl rfl
  obtain ⟨vs,hv1,hv2,hv3⟩:∃ cs:List Value,p.1=.agg cs.toArray∧nU P kt ki.desc=some cs.length∧cU cs=true:=by
   rcases hks p (by simp) with hk | hk
   ·exfalso
    rcases Bc hn with ⟨_,hd⟩ | ⟨_,_,hd⟩ <;> rw [hd] at hk <;> cases hp1:p.1 <;> simp [nT,hp1] at hk
   ·exact hk
  rw [hn] at hv2
  have he:=NU w h hn hs hv3 rfl (Option.some.inj hv2).symm
  simp only [Instr.findAsking,hp,hv1,Sem.run_bind,he,Result.andThen_ok,eP,lI]
  cases hb:eE us vs
  ·simp only [Bool.false_eq_true,if_false]
   rw [Dk h hn hs es ents (n + 1) (fun e he=>hks e (by simp [he])) (by simpa using hl) (fun i p' e' h1 h2=>hh (i + 1) p' e' (by simpa using h1) (by simpa using h2))]
   congr 1
   cases hf:eP es (.agg us.toArray) (n + 1) with
   | none=>rfl
   | some i=>
    have hge:n + 1≤i:=(rN es (n + 1) i hf).1
    simp only [Option.bind_some]
    rw [show i - n=(i - (n + 1)) + 1 from by omega]
    simp
  ·simp
theorem Fm {P:Program}{w:World}{kt:TypeId}{ki:TI} (h:ti P kt=some ki) {k:Value} (hk:yZ P kt ki.desc k) (es:List (Value × AV)) (ents:List MapEntry) (hks:∀ e ∈ es,yZ P kt ki.desc e.1) (hl:ents.length=es.length)
  (hh:∀ (i:Nat) (p:Value × AV) (e:MapEntry),es[i]?=some p→ents[i]?=some e→e.key=p.1) :
  (Instr.findKey kt k ents).run P w=.ok ((eP es k 0).bind fun i=>(ents[i - 0]?).map fun e=>(i,e.val)) w:=by
 have hu:=eH h w
 rcases hk with hk | ⟨us,rfl,hn,hs⟩
 ·have hks':HI ki.desc es:=by
   intro e he
   rcases hks e he with hx | ⟨us,_,hn,_⟩
   ·exact hx
   ·exfalso
    rcases Bc hn with ⟨_,hd⟩ | ⟨_,_,hd⟩ <;> rw [hd] at hk <;> cases k <;> simp [nT] at hk
  have hfn:=Cp hk es ents 0 hks' hl hh
  simp only [Instr.findKey,Sem.run_bind,hu,Result.andThen_ok,hfn,Sem.run_pure]
 ·have hfa:=Dk (w:=w) h hn hs es ents 0 hks hl hh
  simp only [Instr.findKey,Sem.run_bind,hu,Result.andThen_ok]
  cases ents with
  | nil=>
   have:es=[]:=List.eq_nil_of_length_eq_zero (by simpa using hl.symm)
   subst this
   rfl
  | cons e ents=>
   have hno:Instr.findNow ki.desc (.agg us.toArray) (e :: ents) 0=none:=by
    rcases Bc hn with ⟨_,hd⟩ | ⟨_,_,hd⟩ <;> rw [hd] <;> simp [Instr.findNow,Instr.sameNow]
   rw [hno]
   exact hfa
def y8 (P:Program) (objs:List Obj) (t:TypeId) (m k:AV) (ok:Bool) (K:AV→Prop):Prop :=
 match ti P t with
 | some i=>
  match i.desc with
  | .map kt et=>
   match ti P kt,(P.info? et).bind (·.zero),m,s8 k with
   | some ki,some z,.map o,some kv=>
    match objs[o]? with
    | some (.map es)=>
     yZ P kt ki.desc kv∧(∀ e ∈ es,yZ P kt ki.desc e.1) ∧
     (∀ x,CS es kv=some x→K (if ok then .tup [x,.v (.bool true)] else x)) ∧
     (CS es kv=none→K (if ok then .tup [AV.ofValue z,.v (.bool false)] else AV.ofValue z))
    | _=>False
   | _,_,_,_=>False
  | _=>False
 | none=>False
theorem jV {P:Program}{w:World}{kt:TypeId}{ki:TI} (h:ti P kt=some ki) {k:Value} (hk:yZ P kt ki.desc k) (empty:Bool):(Instr.checkKey empty 10000 kt k).run P w=.ok () w:=by
 have hu:=eH h w
 rcases hk with hk | ⟨us,rfl,hn,hs⟩
 ·have gen:∀ n,(Instr.checkKey empty (n + 1) kt k).run P w=.ok () w:=by
   intro n
   generalize ki.desc=d at hu hk
   cases d <;> cases k <;> first | (simp [nT] at hk; done) | skip
   ·simp [Instr.checkKey,hu]
   ·simp [Instr.checkKey,hu]
  exact gen 9999
 ·exact JC w h hn hs rfl empty
theorem DL {P:Program}{G:aL}{objs:List Obj}{w:World}{t:TypeId}{m k:AV}{u v:Value}{ok:Bool}{K:AV→Prop}
  (h:y8 P objs t m k ok K) (hm:Mem G objs w) (hc:aR G w m u) (hk:aR G w k v):∃ r y,(Instr.lookup t u v ok).run P w=.ok r w∧aR G w y r∧K y:=by
 unfold y8 at h
 split at h
 ·rename_i i hi
  split at h
  ·rename_i kt et hd
   split at h
   ·rename_i ki z o kv hki hz hka
    split at h
    ·rename_i es hob
     obtain ⟨h1,h2,h3,h4⟩:=h
     have hkv:=DM hka hk
     subst hkv
     cases hc with
     | map _ b hb=>
      obtain ⟨g,hg,b',ents,clock,rfl,hh,hsz,hent,hnd,him⟩:=hm.obj hob
      rw [hb] at hg; cases hg
      have hu:=eH hi w
      rw [hd] at hu
      have huk:=eH hki w
      have hget:(getObj b).run P w=.ok (.map ents clock) w:=by
       simp [getObj,Sem.run,hh]
      have hfk:(Instr.findKey kt v ents.toList).run P w=.ok ((eP es v 0).bind fun i=>(ents.toList[i - 0]?).map fun e=>(i,e.val)) w :=
       Fm hki h1 es ents.toList h2 (by simpa using hsz) (fun i p e hp he=>(hent i p.1 p.2 e hp (by simpa using he)).1)
      have hzero:(zeroValue et).run P w=.ok z w:=by
       cases hinf:P.info? et with
       | none=>simp [hinf] at hz
       | some inf=>simp [hinf] at hz; simp [zeroValue,typeInfo,hinf,hz]
      cases hf:eP es v 0 with
      | none=>
       have hmg:CS es v=none:=by rw [Ia es v 0,hf]; rfl
       have hK:=h4 hmg
       rw [hf] at hfk
       cases ok
       ·refine ⟨z,_,?_,aR.ofValue z,hK⟩
        simp [Instr.lookup,hu,hget,jV hki h1,hfk,hzero]
       ·refine ⟨.tuple #[z,.bool false],_,?_,?_,hK⟩
        ·simp [Instr.lookup,hu,hget,jV hki h1,hfk,hzero]
        ·exact .tup [_,_] [z,.bool false] rfl (fun i c v hc hv=>by
          match i with
          | 0=>simp at hc hv; subst hc; subst hv; exact aR.ofValue _
          | 1=>simp at hc hv; subst hc; subst hv; exact .v _ rfl
          | n + 2=>simp at hc)
      | some i=>
       obtain ⟨_,hlt,p,hp,hpe⟩:=rN es 0 i hf
       have hlt':i < ents.size:=by omega
       have he:ents[i]?=some ents[i]:=Array.getElem?_eq_getElem hlt'
       have hcv:=(hent i p.1 p.2 _ (by simpa using hp) he).2.1
       have hmg:CS es v=some p.2:=by rw [Ia es v 0,hf]; simp only [Option.bind_some,hp,Option.map_some]
       have hK:=h3 p.2 hmg
       have hel:ents.toList[i - 0]?=some ents[i]:=by simp
       rw [hf] at hfk
       simp only [Option.bind_some,hel,Option.map_some] at hfk
       cases ok
       ·refine ⟨ents[i].val,_,?_,hcv,hK⟩
        simp [Instr.lookup,hu,hget,jV hki h1,hfk]
       ·refine ⟨.tuple #[ents[i].val,.bool true],_,?_,?_,hK⟩
        ·simp [Instr.lookup,hu,hget,jV hki h1,hfk]
        ·exact .tup [_,_] [ents[i].val,.bool true] rfl (fun j c v hc hv=>by
          match j with
          | 0=>simp at hc hv; subst hc; subst hv; exact hcv
          | 1=>simp at hc hv; subst hc; subst hv; exact .v _ rfl
          | n + 2=>simp at hc)
    ·exact h.elim
   ·exact h.elim
  ·exact h.elim
 ·exact h.elim
theorem Ak (w:World) (b j:Nat) (o:Go.Obj) (h:b ≠ j):({ w with heap:=w.heap.setIfInBounds b o }:World).heap[j]?=w.heap[j]?:=by
 simp [Array.getElem?_setIfInBounds,h]
theorem vF {P:Program}{G:aL}{objs:List Obj}{w:World} (hm:Mem G objs w) {o b:Nat}{es es':List (Value × AV)}{ents ents':Array MapEntry}{c c':Nat} (ho:objs[o]?=some (.map es))
  (hb:G.bl[o]?=some (.obj b)) (hh:w.heap[b]?=some (.map ents c)) (him:∀ off,¬ G.imm b off) (hsz:ents'.size=es'.length)
  (hent:∀ (i:Nat) (k:Value) (x:AV) (e:MapEntry),es'[i]?=some (k,x)→ents'[i]?=some e→e.key=k∧aR G w x e.val∧e.born < c')
  (hnd:(ents'.toList.map (·.born)).Nodup) :
  ∃ w',(setObj b (.map ents' c')).run P w=.ok () w'∧bO G w G w'∧Mem G (objs.set o (.map es')) w':=by
 have hbl:b < w.heap.size:=hm.lt o _ b hb rfl
 have hext:Ext G w G { w with heap:=w.heap.setIfInBounds b (.map ents' c') }:=by
  refine ⟨fun t b' o' hi=>?_,fun _ _ _ h=>h,fun _ _ h=>h,fun _ _ h=>.inl h,fun _ b l c sz ex h=>⟨b,l,c,sz,ex,h,.inr ⟨rfl,rfl,rfl⟩⟩⟩
  refine fF (Ak w b b' _ ?_) o'
  rintro rfl
  rcases jG hi with hi | ⟨o2,len,cap,sz,_,h1,_⟩
  ·exact him o' hi
  ·have:=hm.inj o o2 _ _ _ hb h1 rfl rfl
   subst this
   rw [hb] at h1; cases h1
 refine ⟨{ w with heap:=w.heap.setIfInBounds b (.map ents' c') },?_,⟨hext,?_,by simp,rfl,rfl,⟨rfl,Nat.le_refl _⟩,fun _ _ h=>.inl h,fun o g b hg hb=>.inr ⟨o,g,hg,hb⟩⟩,?_⟩
 ·simp [setObj,Sem.run,hh]
 ·intro k hk hn
  refine Ak w b k _ ?_
  rintro rfl
  exact hn o _ hb rfl
 ·have hlo:o < objs.length:=by
   rcases Nat.lt_or_ge o objs.length with hl | hl
   ·exact hl
   ·rw [List.getElem?_eq_none hl] at ho; cases ho
  refine ⟨by simp [hm.len],?_,hm.inj,fun o g b' h1 h2=>by simpa using hm.lt o g b' h1 h2,fun b' off' h=>by simpa using hm.immLt.1 b' off' h,hm.gl hext⟩
  intro o' y g' ho' hg'
  by_cases heo:o=o'
  ·subst heo
   rw [List.getElem?_set,if_pos rfl,if_pos hlo] at ho'
   cases ho'
   rw [hb] at hg'; cases hg'
   refine ⟨b,ents',c',rfl,by simp [hbl],hsz,?_,hnd,him⟩
   intro i k x e h1 h2
   obtain ⟨h3,h4,h5⟩:=hent i k x e h1 h2
   exact ⟨h3,h4.mono hext,h5⟩
  ·rw [List.getElem?_set,if_neg heo] at ho'
   refine (hm.ok o' y g' ho' hg').mono hext ?_ (fun _ _ _ h=>h)
   intro b' hb'
   refine Ak w b b' _ ?_
   rintro rfl
   exact heo (hm.inj o o' _ _ _ hb hg' rfl hb')
def q8 (P:Program) (objs:List Obj) (t:TypeId) (m k x:AV) (K:List Obj→Prop):Prop :=
 match ti P t with
 | some i=>
  match i.desc with
  | .map kt _=>
   match ti P kt,m,s8 k with
   | some ki,.map o,some kv=>
    match objs[o]? with
    | some (.map es)=>yZ P kt ki.desc kv∧(∀ e ∈ es,yZ P kt ki.desc e.1)∧K (objs.set o (.map (Ey es kv x)))
    | _=>False
   | _,_,_=>False
  | _=>False
 | none=>False
theorem SN {a b:Value} (h:lI a b=true):a=b:=by
 cases a <;> cases b <;> simp [lI] at h <;> first | (obtain ⟨rfl,rfl⟩:=h; rfl) | (subst h; rfl) | (rename_i a b; have:=Hd h; cases a; cases b; simp at this; rw [this])
theorem Eo:∀ {us:List Value} (n:Nat),cU us=true→(us.zip us).all (fun (x,y)=>Instr.sameBits n x y)=true
 | [],n,_=>rfl
 | x :: us,n,h=>by
  cases x <;> simp [cU] at h
  have ih:=Eo n h
  simp only [List.zip_cons_cons,List.all_cons,ih,Bool.and_true]
  cases n <;> simp [Instr.sameBits,L1]
theorem Qw {P:Program}{w:World}{k:Value}{t:TypeId}{d:TypeDesc} (h:yZ P t d k):(Instr.keyThatStays k k).run P w=.ok k w:=by
 have hs:Instr.sameBits 10000 k k=true:=by
  rcases h with h | ⟨us,rfl,_,hs⟩
  ·cases d <;> cases k <;> first | (simp [nT] at h; done) | skip
   ·simp [Instr.sameBits]
   ·simp [Instr.sameBits,L1]
  ·have:=Eo 9999 hs
   simp only [Instr.sameBits,beq_self_eq_true,Bool.true_and]
   simpa using this
 simp [Instr.keyThatStays,hs]
theorem Hf {P:Program}{G:aL}{objs:List Obj}{w:World}{t:TypeId}{m k x:AV}{u v vx:Value}{K:List Obj→Prop}
  (h:q8 P objs t m k x K) (hm:Mem G objs w) (hc:aR G w m u) (hk:aR G w k v) (hx:aR G w x vx) :
  ∃ objs' w',(Instr.mapUpdate t u v vx).run P w=.ok () w'∧bO G w G w'∧Mem G objs' w'∧K objs':=by
 unfold q8 at h
 split at h
 ·rename_i i hi
  split at h
  ·rename_i kt et hd
   split at h
   ·rename_i ki o kv hki hka
    split at h
    ·rename_i es hob
     obtain ⟨h1,h2,hK⟩:=h
     have hkv:=DM hka hk
     subst hkv
     cases hc with
     | map _ b hb=>
      obtain ⟨g,hg,b',ents,clock,rfl,hh,hsz,hent,hnd,him⟩:=hm.obj hob
      rw [hb] at hg; cases hg
      have hu:=eH hi w
      rw [hd] at hu
      have huk:=eH hki w
      have hget:(getObj b).run P w=.ok (.map ents clock) w:=by
       simp [getObj,Sem.run,hh]
      have hfk:(Instr.findKey kt v ents.toList).run P w=.ok ((eP es v 0).bind fun i=>(ents.toList[i - 0]?).map fun e=>(i,e.val)) w :=
       Fm hki h1 es ents.toList h2 (by simpa using hsz) (fun i p e hp he=>(hent i p.1 p.2 e hp (by simpa using he)).1)
      have hms:=Ii v x es 0
      cases hf:eP es v 0 with
      | none=>
       rw [hf] at hfk hms
       obtain ⟨w',hr,hs,hM⟩:=vF (P:=P) (es':=Ey es v x) (ents':=ents.push { key:=v,val:=vx,born:=clock }) (c':=clock + 1) hm hob hb hh him (by rw [hms]; simp [hsz])
        (by
         intro i k y e h3 h4
         rw [hms] at h3
         simp only [List.getElem?_append,hsz.symm] at h3
         rw [Array.getElem?_push] at h4
         by_cases hi:i=ents.size
         ·rw [if_pos hi] at h4
          rw [if_neg (by omega)] at h3
          subst hi
          simp at h3
          cases h4
          exact ⟨h3.1,h3.2 ▸ hx,Nat.lt_succ_self _⟩
         ·rw [if_neg hi] at h4
          have hil:i < ents.size:=by
           rcases Nat.lt_or_ge i ents.size with h | h
           ·exact h
           ·rw [Array.getElem?_eq_none h] at h4; cases h4
          rw [if_pos hil] at h3
          obtain ⟨h5,h6,h7⟩:=hent i k y e h3 h4
          exact ⟨h5,h6,by omega⟩)
        (by
         simp only [Array.toList_push,List.map_append,List.map_cons,List.map_nil]
         rw [List.nodup_append]
         refine ⟨hnd,by simp,?_⟩
         intro a ha b' hb'
         simp only [List.mem_singleton] at hb'
         subst hb'
         obtain ⟨e,he,rfl⟩:=List.mem_map.1 ha
         obtain ⟨j,hj,hje⟩:=List.mem_iff_getElem.1 he
         have hj':j < es.length:=by simpa [hsz] using hj
         have:=hent j (es[j]).1 (es[j]).2 e (by simp [hj']) (by simpa using (List.getElem?_eq_some_iff.2 ⟨hj,hje⟩))
         omega)
       refine ⟨_,w',?_,hs,hM,hK⟩
       simp [Instr.mapUpdate,hu,hget,jV hki h1,hfk,hr]
      | some i=>
       obtain ⟨_,hlt,p,hp,hpe⟩:=rN es 0 i hf
       have hlt':i < ents.size:=by omega
       have he:ents[i]?=some ents[i]:=Array.getElem?_eq_getElem hlt'
       have hkey:=(hent i p.1 p.2 _ (by simpa using hp) he).1
       have hpk:=SN hpe
       have hel:ents.toList[i - 0]?=some ents[i]:=by simp
       rw [hf] at hfk hms
       simp only [Option.bind_some,hel,Option.map_some] at hfk
       have hold:(((ents[i]?).map (·.key)).getD v)=v:=by rw [he]; simp [hkey,hpk]
       obtain ⟨w',hr,hs,hM⟩:=vF (P:=P) (es':=Ey es v x) (ents':=ents.modify i fun e=>{ e with key:=v,val:=vx }) (c':=clock) hm hob hb hh him (by rw [hms]; simp [hsz])
        (by
         intro j k y e h3 h4
         rw [hms] at h3
         simp only [Nat.sub_zero,List.getElem?_set] at h3
         rw [Array.getElem?_modify] at h4
         by_cases hi:i=j
         ·subst hi
          rw [if_pos rfl,if_pos (by omega)] at h3
          rw [if_pos rfl,he] at h4
          simp at h3 h4
          subst h4
          exact ⟨h3.1,h3.2 ▸ hx,(hent i p.1 p.2 _ (by simpa using hp) he).2.2⟩
         ·rw [if_neg hi] at h3 h4
          exact hent j k y e h3 h4)
        (by
         have:(ents.modify i fun e=>{ e with key:=v,val:=vx }).toList.map (·.born)=ents.toList.map (·.born):=by
          apply List.ext_getElem?
          intro j
          simp only [List.getElem?_map,Array.getElem?_toList,Array.getElem?_modify]
          split
          ·cases ents[j]? <;> rfl
          ·rfl
         rw [this]; exact hnd)
       refine ⟨_,w',?_,hs,hM,hK⟩
       simp [Instr.mapUpdate,hu,hget,jV hki h1,hfk,-Array.getElem?_eq_getElem,hold,Qw h1,hr]
    ·exact h.elim
   ·exact h.elim
  ·exact h.elim
 ·exact h.elim
theorem M1 {G:aL}{objs:List Obj}{w:World} (hm:Mem G objs w) :
  ∃ G',bO G w G' (w.alloc (.map #[] 0))∧Mem G' (objs ++ [.map []]) (w.alloc (.map #[] 0)) ∧
   aR G' (w.alloc (.map #[] 0)) (.map objs.length) (.map (some w.heap.size)):=by
 obtain ⟨hs,hm'⟩:=gP.step hm ((gP.refl w).alloc (.map #[] 0)) (imm':=G.imm) (fun _ _ h=>h) (fun _ _ h=>.inl h)
 have hnb:∀ b,(GB.obj w.heap.size).blk=some b→w.heap.size≤b:=by intro b hb; simp [GB.blk] at hb; omega
 refine ⟨⟨G.bl ++ [.obj w.heap.size],G.imm⟩,hs.push _ hnb,?_,?_⟩
 ·refine Mem.push (G:=⟨G.bl,G.imm⟩) hm' ?_ ?_
  ·refine ⟨w.heap.size,#[],0,rfl,eG w _,rfl,?_,by simp,?_⟩
   ·intro i k x e h; simp at h
   ·intro off hi
    have:=hm.immLt.1 _ _ hi
    omega
  ·intro b hb
   simp [GB.blk] at hb
   subst hb
   refine ⟨by simp,?_⟩
   intro o g' hg' hb'
   have:=hm.lt o g' _ hg' hb'
   omega
 ·refine .map _ _ ?_
  simp [← hm.len]
end Go.Proofs.YthgenmkengbmmaaGreatDoor.AM
