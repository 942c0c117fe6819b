/- A2 -/
import Derived.Test.YthgenmkengbmmaaGreatDoorCA1
import Derived.Maps.RangeRun
import Derived.Lib.ConvBytes
import Derived.Deep.Quiet
set_option linter.all false
namespace Go.Proofs.YthgenmkengbmmaaGreatDoor.AM
open Go
def rV (P:Program) (objs:List Obj) (t:TypeId) (x:AV) (k:AV→Prop):Prop :=
 match ti P t,x with
 | some i,.map o=>(match i.desc,objs[o]? with | .map _ _,some (.map es)=>k (.v (.int .i64 es.length)) | _,_=>False)
 | _,_=>False
theorem D1 {P:Program}{G:aL}{objs:List Obj}{w:World}{t:TypeId}{x:AV}{v:Value}{k:AV→Prop} (ts:Array TypeId) (ty:TypeId)
  (h:rV P objs t x k) (hm:Mem G objs w) (hx:aR G w x v) (ht:ts[0]?=some t):∃ r y,(Builtin.len_ ts ty #[v]).run P w=.ok r w∧aR G w y r∧k y:=by
 unfold rV at h
 split at h
 ·rename_i i o hi
  split at h
  ·rename_i kt et es hd hob
   have hu:=eH hi w
   rw [hd] at hu
   cases hx with
   | map _ b hb=>
    obtain ⟨g,hg,b',ents,clock,rfl,hh,hsz,hent,hnd,him⟩:=hm.obj hob
    rw [hb] at hg; cases hg
    have hget:(getObj b).run P w=.ok (.map ents clock) w:=by simp [getObj,Sem.run,hh]
    refine ⟨_,_,?_,.v _ rfl,h⟩
    simp [Builtin.len_,ht,hu,hget,goInt,hsz]
  ·exact h.elim
 ·exact h.elim
def Co (P:Program) (objs:List Obj) (t:TypeId) (m k:AV) (K:List Obj→Prop):Prop :=
 match ti P t with
 | some i=>
  match i.desc with
  | .map kt _=>
   match ti P kt,m,k with
   | some ki,.map o,.v kv=>
    match objs[o]? with
    | some (.map es)=>nT ki.desc kv=true∧HI ki.desc es∧K (objs.set o (.map (EB es kv)))
    | _=>False
   | _,_,_=>False
  | _=>False
 | none=>False
theorem Hj (k:Value):∀ (es:List (Value × AV)) (n:Nat),EB es k=(match eP es k n with | some i=>es.eraseIdx (i - n) | none=>es)
 | [],n=>rfl
 | p :: es,n=>by
  simp only [EB,eP]
  split
  ·simp
  ·rw [Hj k es (n + 1)]
   cases hf:eP es k (n + 1) with
   | none=>rfl
   | some i=>
    have:=(rN es (n + 1) i hf).1
    simp only
    rw [show i - n=(i - (n + 1)) + 1 from by omega]
    rfl
theorem MS {P:Program}{G:aL}{objs:List Obj}{w:World}{t t2:TypeId}{m k:AV}{u v:Value}{K:List Obj→Prop} (ty:TypeId)
  (h:Co P objs t m k K) (hm:Mem G objs w) (hc:aR G w m u) (hk:aR G w k v) :
  ∃ objs' w',(Builtin.delete_ #[t,t2] ty #[u,v]).run P w=.ok (.tuple #[]) w'∧bO G w G w'∧Mem G objs' w'∧K objs':=by
 unfold Co at h
 split at h
 ·rename_i i hi
  split at h
  ·rename_i kt et hd
   split at h
   ·rename_i ki o kv hki
    split at h
    ·rename_i es hob
     obtain ⟨h1,h2,hK⟩:=h
     have hkv:=r6 hk
     subst hkv
     cases hc with
     | map _ b hb=>
      obtain ⟨g,hg,b',ents,clock,rfl,hh,hsz,hent,hnd,him⟩:=hm.obj hob
      rw [hb] at hg; cases hg
      have hu:=eH hi w
      rw [hd] at hu
      have huk:=eH hki w
      have hget:(getObj b).run P w=.ok (.map ents clock) w:=by
       simp [getObj,Sem.run,hh]
      have hfn:=Cp h1 es ents.toList 0 h2 (by simpa using hsz) (fun i p e hp he=>(hent i p.1 p.2 e hp (by simpa using he)).1)
      have hfk:(Instr.findKey kt v ents.toList).run P w=.ok ((eP es v 0).bind fun i=>(ents.toList[i - 0]?).map fun e=>(i,e.val)) w:=by
       simp only [Instr.findKey,Sem.run_bind,huk,Result.andThen_ok,hfn,Sem.run_pure]
      have hms:=Hj v es 0
      cases hf:eP es v 0 with
      | none=>
       rw [hf] at hfk hms
       obtain ⟨w',hr,hs,hM⟩:=vF (P:=P) (es':=EB es v) (ents':=ents) (c':=clock) hm hob hb hh him (by rw [hms]; exact hsz) (by rw [hms]; exact hent) hnd
       refine ⟨_,w',?_,hs,hM,hK⟩
       simp [Builtin.delete_,hu,hget,jV hki (.inl h1),hfk,hr]
      | some i=>
       obtain ⟨_,hlt,p,hp,hpe⟩:=rN es 0 i hf
       have hlt':i < ents.size:=by omega
       have hel:ents.toList[i - 0]?=some ents[i]:=by simp
       rw [hf] at hfk hms
       simp only [Option.bind_some,hel,Option.map_some] at hfk
       have hea:(ents.eraseIdxIfInBounds i).toList=ents.toList.eraseIdx i:=by
        simp [Array.eraseIdxIfInBounds,hlt']
       obtain ⟨w',hr,hs,hM⟩:=vF (P:=P) (es':=EB es v) (ents':=ents.eraseIdxIfInBounds i) (c':=clock) hm hob hb hh him
        (by
         rw [hms,← Array.length_toList,hea]
         simp only [Nat.sub_zero,List.length_eraseIdx,Array.length_toList,hsz])
        (by
         intro j k y e h3 h4
         rw [hms] at h3
         rw [← Array.getElem?_toList,hea] at h4
         simp only [Nat.sub_zero] at h3
         rw [List.getElem?_eraseIdx] at h3 h4
         split at h3
         ·rename_i hj
          rw [if_pos hj] at h4
          exact hent j k y e h3 (by simpa using h4)
         ·rename_i hj
          rw [if_neg hj] at h4
          exact hent (j + 1) k y e h3 (by simpa using h4))
        (by
         rw [hea]
         exact hnd.sublist ((List.eraseIdx_sublist ..).map _))
       refine ⟨_,w',?_,hs,hM,hK⟩
       simp [Builtin.delete_,hu,hget,jV hki (.inl h1),hfk,-Array.getElem?_eq_getElem,hr]
    ·exact h.elim
   ·exact h.elim
  ·exact h.elim
 ·exact h.elim
theorem yV {α:Type}{sz:Nat}:∀ {rows:List (List α)}{k:Nat}{d:α},(∀ (i:Nat) (r:List α),rows[i]?=some r→r.length=sz)→rows.flatten[k]?=some d →
  ∃ (i j:Nat) (r:List α),rows[i]?=some r∧r[j]?=some d∧k=i * sz + j
 | [],k,d,_,h=>by simp at h
 | r :: rows,k,d,hl,h=>by
  have h0:=hl 0 r rfl
  rcases Nat.lt_or_ge k r.length with hk | hk
  ·rw [List.flatten_cons,List.getElem?_append_left hk] at h
   exact ⟨0,k,r,rfl,h,by omega⟩
  ·rw [List.flatten_cons,List.getElem?_append_right hk] at h
   obtain ⟨i,j,r',h1,h2,h3⟩:=yV (fun i r h=>hl (i + 1) r (by simpa using h)) h
   exact ⟨i + 1,j,r',by simpa using h1,h2,by rw [Nat.succ_mul]; omega⟩
theorem z6 {α:Type}{sz:Nat}:∀ {rows:List (List α)},(∀ (i:Nat) (r:List α),rows[i]?=some r→r.length=sz)→rows.flatten.length=rows.length * sz
 | [],_=>by simp
 | r :: rows,hl=>by
  have h0:=hl 0 r rfl
  rw [List.flatten_cons,List.length_append,z6 (fun i r h=>hl (i + 1) r (by simpa using h)),List.length_cons,Nat.succ_mul]; omega
def Lh (P:Program) (t:TypeId) (objs:List Obj) (d x:AV) (k:AV→List Obj→Prop):Prop :=
 match ti P t,d,x with
 | some i,.bsl o off len,.sl rows _=>
  match i.desc,objs[o]? with
  | .slice e,some (.box cells)=>
   match ti P e with
   | some j=>0 < j.size∧0 < len∧(∀ r ∈ rows,r.length=j.size)∧off + min rows.length len * j.size≤cells.length ∧
     k (.v (.int .i64 (min rows.length len:Nat))) (objs.set o (.box (setFrom cells off ((rows.take (min rows.length len)).flatten.map AV.ofD))))
   | none=>False
  | _,_=>False
 | _,_,_=>False
theorem Qh {P:Program}{G:aL}{objs:List Obj}{w:World}{t t2:TypeId}{d x:AV}{u v:Value}{k:AV→List Obj→Prop} (ty:TypeId)
  (h:Lh P t objs d x k) (hm:Mem G objs w) (hd:aR G w d u) (hx:aR G w x v) :
  ∃ r y objs' w',(Builtin.copy_ #[t,t2] ty #[u,v]).run P w=.ok r w'∧bO G w G w'∧Mem G objs' w'∧aR G w' y r∧k y objs':=by
 unfold Lh at h
 split at h
 ·rename_i i o off len rows tk hi
  split at h
  ·rename_i e cells hde hob
   split at h
   ·rename_i j hj
    obtain ⟨h0,h1,h2,h3,hk⟩:=h
    have hu:=eH hi w
    rw [hde] at hu
    obtain ⟨_,f,z,hf,_,hs,_⟩:=b5 hj
    have hsz:P.cellsOf e=j.size:=by simp [Program.cellsOf,hf,hs]
    cases hx with
    | sl _ _ _ hsl ht=>
     obtain ⟨a,c,rfl,hn,hc,hor⟩:=hsl
     have hpre:SlC w (G.im tk) G.imm (rows.take (min rows.length len)) (.slice a (min rows.length len) c):=by
      refine ⟨a,c,by simp,by simp; omega,hc,?_⟩
      rcases hor with rfl | ⟨b,st,sz,ha,hr⟩
      ·exact .inl (by simp)
      ·refine .inr ⟨b,st,sz,ha,fun i r hh=>hr.1 i r ?_,fun i q r dd hh hq=>hr.2 i q r dd ?_ hq⟩
       all_goals
        rw [List.getElem?_take] at hh
        split at hh
        ·exact hh
        ·cases hh
     have hs':∀ r ∈ rows.take (min rows.length len),r.length=j.size:=fun r hr=>h2 r (List.mem_of_mem_take hr)
     obtain ⟨news,hsrc⟩:=v6 (P:=P) h0 hs' hpre
     have hcells:=hsrc.cells w (fun _ _ _=>rfl)
     have hlt:(rows.take (min rows.length len)).length=min rows.length len:=by simp
     rw [hlt] at hcells
     have hfc:(Builtin.firstCells j.size (min rows.length len) (.slice a rows.length c)).run P w=.ok news.toArray w:=by
      cases a <;> exact hcells
     have hget:∀ (i:Nat) (r:List D),(rows.take (min rows.length len))[i]?=some r→r.length=j.size:=fun i r hr=>hs' r (List.mem_of_getElem? hr)
     have hcl:cQ G w ((rows.take (min rows.length len)).flatten.map AV.ofD) news:=by
      refine ⟨by rw [List.length_map,z6 hget,hsrc.flat.1],fun q y x' hy hx'=>?_⟩
      simp only [List.getElem?_map] at hy
      cases hq:(rows.take (min rows.length len)).flatten[q]? with
      | none=>simp [hq] at hy
      | some dd=>
       simp only [hq,Option.map_some,Option.some.injEq] at hy
       subst hy
       obtain ⟨p,q',r,k1,k2,rfl⟩:=yV hget hq
       obtain ⟨x2,hx2,hdc⟩:=hsrc.flat.2.2 p q' r dd k1 k2
       rw [hx2] at hx'; cases hx'
       exact nQ hdc
     cases hd with
     | bsl0=>omega
     | bsl _ _ _ cap b hb hcap hmx=>
      obtain ⟨w',hst,hstep,hmem⟩:=HB (P:=P) hm hob hb hcl hsrc.flat.2.1 (by rw [List.length_map,z6 hget,hlt]; exact h3)
      refine ⟨_,_,_,w',?_,hstep,hmem,.v _ rfl,hk⟩
      have hst':(storeCells ⟨b,off,none⟩ news).run P w=.ok () w':=hst
      simp [Builtin.copy_,hu,Builtin.lenOf,run_sizeOf w hf,hsz,hfc,hst',goInt,show Nat.min rows.length len=min rows.length len from rfl]
   ·exact h.elim
  ·exact h.elim
 ·exact h.elim
end Go.Proofs.YthgenmkengbmmaaGreatDoor.AM
namespace Go.Proofs.YthgenmkengbmmaaGreatDoor.AM
open Go
open Go.ChangeMaps (setBlock)
theorem Ji (w:World) (b j:Nat) (o:Go.Obj) (h:b ≠ j):(setBlock w b o).heap[j]?=w.heap[j]?:=Ak w b j o h
structure I4 (w w':World) (b:Nat) (h:Go.Obj):Prop where
 at':w'.heap[b]?=some h
 other:∀ j,b ≠ j→w'.heap[j]?=w.heap[j]?
 size:w'.heap.size=w.heap.size
 os:w'.os=w.os
 tape:w'.tape=w.tape
 output:w'.output=w.output∧w.drawn≤w'.drawn
theorem I4.set {w w1:World} (hw:w1=w ∨ w1=w.drew) {b:Nat} (hbl:b < w.heap.size) (h:Go.Obj):I4 w (setBlock w1 b h) b h:=by
 have hh:w1.heap=w.heap:=by rcases hw with rfl | rfl <;> rfl
 refine ⟨by simp [setBlock,hh,hbl],fun j hj=>by rw [Ji w1 b j h hj,hh],by simp [setBlock,hh],?_,?_,?_⟩
 ·rcases hw with rfl | rfl <;> rfl
 ·rcases hw with rfl | rfl <;> rfl
 ·rcases hw with rfl | rfl
  ·exact ⟨rfl,Nat.le_refl _⟩
  ·exact ⟨rfl,Nat.le_succ _⟩
theorem I4.step {G:aL}{objs:List Obj}{w w':World} (hm:Mem G objs w) {o b:Nat} (hlo:o < objs.length) (hb:G.bl[o]?=some (.obj b)) (him:∀ off,¬ G.imm b off) {h:Go.Obj} (hw:I4 w w' b h) :
  bO G w G w'∧∀ x,iU G w' (.obj b) x→Mem G (objs.set o x) w':=by
 have hoth:=hw.other
 have hsz:=hw.size
 have hext:Ext G w G w':=by
  refine ⟨fun t b' o' hi=>?_,fun _ _ _ h=>h,fun _ _ h=>h,fun _ _ h=>.inl h,fun _ b l c sz ex h=>⟨b,l,c,sz,ex,h,.inr ⟨rfl,rfl,rfl⟩⟩⟩
  refine fF (hoth b' ?_) o'
  rintro rfl
  rcases jG hi with hi | ⟨o2,len,cap,sz,_,h1,_⟩
  ·exact him o' hi
  ·have:=hm.inj o o2 _ _ _ hb h1 rfl rfl
   subst this
   rw [hb] at h1; cases h1
 refine ⟨⟨hext,?_,by omega,hw.os,hw.tape,hw.output,fun _ _ h=>.inl h,fun o g b hg hb=>.inr ⟨o,g,hg,hb⟩⟩,?_⟩
 ·intro k hk hn
  refine hoth k ?_
  rintro rfl
  exact hn o _ hb rfl
 ·intro x hx
  refine ⟨by simp [hm.len],?_,hm.inj,fun o g b' h1 h2=>by rw [hsz]; exact hm.lt o g b' h1 h2,fun b' off' h=>by rw [hsz]; exact hm.immLt.1 b' off' h,hm.gl hext⟩
  intro o' y g' ho' hg'
  by_cases heo:o=o'
  ·subst heo
   rw [List.getElem?_set,if_pos rfl,if_pos hlo] at ho'
   cases ho'
   rw [hb] at hg'; cases hg'
   exact hx
  ·rw [List.getElem?_set,if_neg heo] at ho'
   refine (hm.ok o' y g' ho' hg').mono hext ?_ (fun _ _ _ h=>h)
   intro b' hb'
   refine hoth b' ?_
   rintro rfl
   exact heo (hm.inj o o' _ _ _ hb hg' rfl hb')
theorem L3 {G:aL}{objs:List Obj}{w w1:World} (hm:Mem G objs w) (hw:w1=w ∨ w1=w.drew) {o b:Nat} (hlo:o < objs.length) (hb:G.bl[o]?=some (.obj b)) (him:∀ off,¬ G.imm b off) (h:Go.Obj) :
  bO G w G (setBlock w1 b h)∧(setBlock w1 b h).heap[b]?=some h∧∀ x,iU G (setBlock w1 b h) (.obj b) x→Mem G (objs.set o x) (setBlock w1 b h):=by
 have hs:=I4.set hw (hm.lt o _ b hb rfl) h
 exact ⟨(hs.step hm hlo hb him).1,hs.at',(hs.step hm hlo hb him).2⟩
theorem Mem.retell {G:aL}{objs:List Obj}{w:World} (hm:Mem G objs w) {o:Nat}{g:GB} (hg:G.bl[o]?=some g) {x:Obj} (hx:iU G w g x):Mem G (objs.set o x) w:=by
 refine ⟨by simp [hm.len],?_,hm.inj,hm.lt,hm.immLt⟩
 intro o' y g' ho' hg'
 by_cases heo:o=o'
 ·subst heo
  rw [List.getElem?_set,if_pos rfl] at ho'
  split at ho'
  ·cases ho'
   rw [hg] at hg'; cases hg'; exact hx
  ·cases ho'
 ·rw [List.getElem?_set,if_neg heo] at ho'
  exact hm.ok o' y g' ho' hg'
def EW (P:Program) (objs:List Obj) (t:TypeId) (x:AV) (K:AV→List Obj→Prop):Prop :=
 match ti P t,x with
 | some i,.map o=>(match i.desc,objs[o]? with
  | .map _ _,some (.map es)=>∀ bs c,bs.length=es.length→bs.Nodup→(∀ b ∈ bs,b < c)→K (.ptr objs.length 0) (objs.set o (.mapB bs c es) ++ [.iter o c []])
  | _,_=>False)
 | some i,.v (.string s)=>i.desc=.string∧K (.ptr objs.length 0) (objs ++ [.siter s 0])
 | _,_=>False
theorem ND {P:Program}{G:aL}{objs:List Obj}{w:World}{t:TypeId}{x:AV}{v:Value}{K:AV→List Obj→Prop} (h:EW P objs t x K) (hm:Mem G objs w) (hx:aR G w x v) :
  ∃ r y objs' G' w',(Instr.range t v).run P w=.ok r w'∧bO G w G' w'∧Mem G' objs' w'∧aR G' w' y r∧K y objs':=by
 unfold EW at h
 split at h
 ·rename_i i o hti
  split at h
  ·rename_i kt et es hd ho
   obtain ⟨g,hg,hok⟩:=hm.obj ho
   obtain ⟨b,ents,clock,rfl,h1,h2,h3,h4,h5⟩:=hok
   cases hx with
   | map _ b' hb'=>
    rw [hg] at hb'; cases hb'
    have hu:=eH hti w
    rw [hd] at hu
    have hlo:o < objs.length:=(List.getElem?_eq_some_iff.1 ho).1
    have hlen:(ents.toList.map (·.born)).length=es.length:=by simpa using h2
    have hlt:∀ x ∈ ents.toList.map (·.born),x < clock:=by
     intro x hx
     obtain ⟨e,he,rfl⟩:=List.mem_map.1 hx
     obtain ⟨j,hj,rfl⟩:=List.getElem_of_mem he
     have hj':j < es.length:=by simp at hj; omega
     have hej:ents[j]?=some ents.toList[j]:=by simp at hj ⊢
     exact (h3 j es[j].1 es[j].2 _ (by simp [hj']) hej).2.2
    have K':=h _ clock hlen h4 hlt
    have hm1:Mem G (objs.set o (.mapB (ents.toList.map (·.born)) clock es)) w:=hm.retell hg ⟨b,ents,rfl,h1,h2,h3,h4,rfl,h5⟩
    obtain ⟨hs,hm'⟩:=gP.step hm1 ((gP.refl w).alloc (.mapIter (some b) clock #[] clock)) (imm':=G.imm) (fun _ _ h=>h) (fun _ _ h=>.inl h)
    have hnb:∀ b,(GB.obj w.heap.size).blk=some b→w.heap.size≤b:=by intro b hb; simp [GB.blk] at hb; omega
    have hbl:b < w.heap.size:=hm.lt o _ b hg rfl
    have hgl:o < G.bl.length:=by rw [hm.len]; exact hlo
    refine ⟨.pointer (some ⟨w.heap.size,0,none⟩),.ptr objs.length 0,_,⟨G.bl ++ [.obj w.heap.size],G.imm⟩,w.alloc (.mapIter (some b) clock #[] clock),?_,hs.push _ hnb,?_,?_,K'⟩
    ·simp [Instr.range,hu,getObj,newObj,Sem.run,h1,Sem.run_bind,Result.andThen]
    ·refine Mem.push (G:=⟨G.bl,G.imm⟩) hm' ?_ ?_
     ·refine ⟨w.heap.size,b,rfl,?_,eG w _,?_⟩
      ·show (G.bl ++ _)[o]?=_
       rw [List.getElem?_append_left hgl]; exact hg
      ·intro off hi
       have:=hm.immLt.1 _ _ hi
       omega
     ·intro b' hb'
      simp [GB.blk] at hb'
      subst hb'
      refine ⟨by simp,?_⟩
      intro o' g' hg' hb'
      have:=hm.lt o' g' _ hg' hb'
      omega
    ·refine .ptr _ _ _ ?_
     simp [← hm.len]
  ·exact h.elim
 ·rename_i i s hti
  obtain ⟨hd,K'⟩:=h
  cases hx with
  | v _ h1=>
   have hu:=eH hti w
   rw [hd] at hu
   obtain ⟨hs,hm'⟩:=gP.step hm ((gP.refl w).alloc (.stringIter s 0)) (imm':=G.imm) (fun _ _ h=>h) (fun _ _ h=>.inl h)
   have hnb:∀ b,(GB.obj w.heap.size).blk=some b→w.heap.size≤b:=by intro b hb; simp [GB.blk] at hb; omega
   refine ⟨.pointer (some ⟨w.heap.size,0,none⟩),.ptr objs.length 0,_,⟨G.bl ++ [.obj w.heap.size],G.imm⟩,w.alloc (.stringIter s 0),?_,hs.push _ hnb,?_,?_,K'⟩
   ·simp [Instr.range,hu,newObj,Sem.run,Sem.run_bind,Result.andThen]
   ·refine Mem.push (G:=⟨G.bl,G.imm⟩) hm' ?_ ?_
    ·refine ⟨w.heap.size,rfl,eG w _,?_⟩
     intro off hi
     have:=hm.immLt.1 _ _ hi
     omega
    ·intro b' hb'
     simp [GB.blk] at hb'
     subst hb'
     refine ⟨by simp,?_⟩
     intro o' g' hg' hb'
     have:=hm.lt o' g' _ hg' hb'
     omega
   ·refine .ptr _ _ _ ?_
    simp [← hm.len]
 ·exact h.elim
def Io (objs:List Obj) (x:AV) (isStr:Bool) (K:AV→List Obj→Prop):Prop :=
 isStr=false∧match x with
 | .ptr k 0=>(match objs[k]? with
  | some (.iter m c seen)=>(match objs[m]? with
   | some (.mapB bs c' es)=>c'=c∧((∀ b ∈ bs,b ∈ seen)→K (.tup [.v (.bool false)]) objs) ∧
     (∀ (i b:Nat) (p:Value × AV),bs[i]?=some b→es[i]?=some p→b ∉ seen→K (.tup [.v (.bool true),AV.ofValue p.1,p.2]) (objs.set k (.iter m c (seen ++ [b]))))
   | _=>False)
  | _=>False)
 | _=>False
theorem Nl {P:Program}{G:aL}{objs:List Obj}{w:World}{x:AV}{v:Value}{isStr:Bool}{K:AV→List Obj→Prop} (ty:TypeId) (h:Io objs x isStr K) (hm:Mem G objs w) (hx:aR G w x v) :
  ∃ r y objs' G' w',(Instr.next v isStr ty).run P w=.ok r w'∧bO G w G' w'∧Mem G' objs' w'∧aR G' w' y r∧K y objs':=by
 unfold Io at h
 obtain ⟨rfl,h⟩:=h
 split at h
 ·rename_i k
  split at h
  ·rename_i m c seen hk
   split at h
   ·rename_i bs c' es hm1
    obtain ⟨rfl,hover,hstep⟩:=h
    obtain ⟨g,hg,hok⟩:=hm.obj hk
    obtain ⟨b,mb,rfl,i1,i2,i3⟩:=hok
    obtain ⟨g2,hg2,hok2⟩:=hm.obj hm1
    obtain ⟨b2,ents,rfl,h1,h2,h3,h4,h5,h6⟩:=hok2
    rw [i1] at hg2; cases hg2
    cases hx with
    | ptr _ _ b' hb'=>
     rw [hg] at hb'; cases hb'
     have hlk:k < objs.length:=(List.getElem?_eq_some_iff.1 hk).1
     have hjs:∀ e ∈ ents.toList,∃ j:Nat,ents[j]?=some e∧∃ p,es[j]?=some p∧bs[j]?=some e.born∧e.key=p.1∧aR G w p.2 e.val∧e.born < c':=by
      intro e he
      obtain ⟨j,hj,rfl⟩:=List.getElem_of_mem he
      have hj':j < es.length:=by simp at hj; omega
      have hej:ents[j]?=some ents.toList[j]:=by simp at hj ⊢
      have hp:es[j]?=some es[j]:=List.getElem?_eq_getElem hj'
      obtain ⟨q1,q2,q3⟩:=h3 j es[j].1 es[j].2 _ hp hej
      refine ⟨j,hej,es[j],hp,?_,q1,q2,q3⟩
      rw [← h5]; simp [hej]
     have hold:∀ x ∈ ents.toList,x.born < c':=fun x hx=>by obtain ⟨_,_,_,_,_,_,_,h⟩:=hjs x hx; exact h
     rcases run_next_at (P:=P) w ty b mb c' c' seen.toArray ents c' i2 h1 hold (Nat.le_refl _) with ⟨hz,hr⟩ | ⟨e,he,w1,hw1,hr⟩
     ·refine ⟨_,_,objs,G,w,hr,bO.refl G w,hm,?_,hover ?_⟩
      ·refine .tup _ [.bool false] rfl ?_
       intro i c v hc hv
       cases i with
       | zero=>simp at hc hv; subst hc; subst hv; exact .v _ rfl
       | succ i=>simp at hc
      ·intro x hx
       rw [← h5] at hx
       obtain ⟨e,he,rfl⟩:=List.mem_map.1 hx
       have hemp:leftOf ents seen.toArray=#[]:=Array.eq_empty_of_size_eq_zero hz
       unfold leftOf at hemp
       rw [Array.filter_eq_empty_iff] at hemp
       have:=hemp e (by simpa using he)
       simpa using this
     ·have he':e ∈ ents.toList∧e.born ∉ seen:=by
       unfold leftOf at he
       simp only [Array.toList_filter,List.mem_filter] at he
       refine ⟨he.1,?_⟩
       simpa using he.2
      obtain ⟨j,hej,p,hp,hb,q1,q2,q3⟩:=hjs e he'.1
      obtain ⟨s1,s2,s3⟩:=L3 hm hw1 hlk hg i3 (.mapIter (some mb) c' (seen.toArray.push e.born) c')
      refine ⟨_,_,_,G,_,hr,s1,s3 (.iter m c' (seen ++ [e.born])) ?_,?_,hstep j e.born p hb hp he'.2⟩
      ·refine ⟨b,mb,rfl,i1,?_,i3⟩
       rw [s2]; simp
      ·refine .tup _ [.bool true,e.key,e.val] rfl ?_
       intro i c v hc hv
       match i with
       | 0=>simp at hc hv; subst hc; subst hv; exact .v _ rfl
       | 1=>simp at hc hv; subst hc; subst hv; rw [q1]; exact aR.ofValue _
       | 2=>simp at hc hv; subst hc; subst hv; exact q2.mono s1.ext
       | (n + 3)=>simp at hc
   ·exact h.elim
  ·exact h.elim
 ·exact h.elim
def EU (objs:List Obj) (x:AV) (isStr:Bool) (K:AV→List Obj→Prop):Prop :=
 isStr=true∧match x with
 | .ptr k 0=>(match objs[k]? with
  | some (.siter s pos)=>(¬ pos < s.size→K (.tup [.v (.bool false)]) objs) ∧
    (pos < s.size→K (.tup [.v (.bool true),.v (.int .i64 (pos:Int)),.v (.int .i32 ((Utf8.decode s pos).1:Int))]) (objs.set k (.siter s (pos + (Utf8.decode s pos).2))))
  | _=>False)
 | _=>False
theorem Od {P:Program}{G:aL}{objs:List Obj}{w:World}{x:AV}{v:Value}{isStr:Bool}{K:AV→List Obj→Prop} (ty:TypeId) (h:EU objs x isStr K) (hm:Mem G objs w) (hx:aR G w x v) :
  ∃ r y objs' G' w',(Instr.next v isStr ty).run P w=.ok r w'∧bO G w G' w'∧Mem G' objs' w'∧aR G' w' y r∧K y objs':=by
 unfold EU at h
 obtain ⟨rfl,h⟩:=h
 split at h
 ·rename_i k
  split at h
  ·rename_i s pos hk
   obtain ⟨hover,hstep⟩:=h
   obtain ⟨g,hg,hok⟩:=hm.obj hk
   obtain ⟨b,rfl,i2,i3⟩:=hok
   have hlo:k < objs.length:=(List.getElem?_eq_some_iff.1 hk).1
   cases hx with
   | ptr _ _ b' hb'=>
    rw [hg] at hb'; cases hb'
    by_cases hp:pos < s.size
    ·obtain ⟨s1,s2,s3⟩:=L3 hm (.inl rfl) hlo hg i3 (.stringIter s (pos + (Utf8.decode s pos).2))
     refine ⟨.tuple #[.bool true,.int .i64 (pos:Int),.int .i32 ((Utf8.decode s pos).1:Int)],_,_,G,_,?_,s1,s3 (.siter s (pos + (Utf8.decode s pos).2)) ⟨b,rfl,s2,i3⟩,?_,hstep hp⟩
     ·simp only [Instr.next,getObj,setObj,Sem.run_bind,Sem.run,i2,Result.andThen,hp,if_true]
      simp [goInt,setBlock]
     ·refine .tup _ [.bool true,.int .i64 (pos:Int),.int .i32 ((Utf8.decode s pos).1:Int)] rfl ?_
      intro i c v hc hv
      match i with
      | 0=>simp at hc hv; subst hc; subst hv; exact .v _ rfl
      | 1=>simp at hc hv; subst hc; subst hv; exact .v _ rfl
      | 2=>simp at hc hv; subst hc; subst hv; exact .v _ rfl
      | (n + 3)=>simp at hc
    ·refine ⟨.tuple #[.bool false],_,_,G,w,?_,bO.refl G w,hm,?_,hover hp⟩
     ·simp [Instr.next,getObj,Sem.run,i2,hp]
     ·refine .tup _ [.bool false] rfl ?_
      intro i c v hc hv
      match i with
      | 0=>simp at hc hv; subst hc; subst hv; exact .v _ rfl
      | (n + 1)=>simp at hc
  ·exact h.elim
 ·exact h.elim
def QC (objs:List Obj) (x:AV) (isStr:Bool) (K:AV→List Obj→Prop):Prop:=Io objs x isStr K ∨ EU objs x isStr K
theorem Py {P:Program}{G:aL}{objs:List Obj}{w:World}{x:AV}{v:Value}{isStr:Bool}{K:AV→List Obj→Prop} (ty:TypeId) (h:QC objs x isStr K) (hm:Mem G objs w) (hx:aR G w x v) :
  ∃ r y objs' G' w',(Instr.next v isStr ty).run P w=.ok r w'∧bO G w G' w'∧Mem G' objs' w'∧aR G' w' y r∧K y objs' :=
 h.elim (fun h=>Nl ty h hm hx) (fun h=>Od ty h hm hx)
def E7 (objs:List Obj) (x:AV) (K:AV→Prop):Prop :=
 match x with
 | .ptr k 0=>(match objs[k]? with
  | some (.iter m c seen)=>(match objs[m]? with
   | some (.mapB bs c' es)=>c'=c∧∃ (seen':List Nat) (i b:Nat) (p:Value × AV),seen=seen' ++ [b]∧bs[i]?=some b∧es[i]?=some p∧K (.tup [AV.ofValue p.1,p.2])
   | _=>False)
  | _=>False)
 | _=>False
theorem Nt {P:Program}{G:aL}{objs:List Obj}{w:World}{x:AV}{v:Value}{K:AV→Prop} (h:E7 objs x K) (hm:Mem G objs w) (hx:aR G w x v) :
  ∃ r y,(Instr.entry v).run P w=.ok r w∧aR G w y r∧K y:=by
 unfold E7 at h
 split at h
 ·rename_i k
  split at h
  ·rename_i m c seen hk
   split at h
   ·rename_i bs c' es hm1
    obtain ⟨rfl,seen',i,sb,p,rfl,hb,hp,hK⟩:=h
    obtain ⟨g,hg,hok⟩:=hm.obj hk
    obtain ⟨b,mb,rfl,i1,i2,i3⟩:=hok
    obtain ⟨g2,hg2,hok2⟩:=hm.obj hm1
    obtain ⟨b2,ents,rfl,h1,h2,h3,h4,h5,h6⟩:=hok2
    rw [i1] at hg2; cases hg2
    cases hx with
    | ptr _ _ b' hb'=>
     rw [hg] at hb'; cases hb'
     rw [← h5,List.getElem?_map] at hb
     cases he:ents.toList[i]? with
     | none=>rw [he] at hb; cases hb
     | some e=>
      rw [he] at hb
      simp only [Option.map_some,Option.some.injEq] at hb
      have hei:ents[i]?=some e:=by simpa using he
      obtain ⟨q1,q2,q3⟩:=h3 i p.1 p.2 e hp hei
      have hr:=run_entry_at (P:=P) w b mb c' seen'.toArray ents c' e (by rw [i2,hb]; simp) h1 (List.mem_of_getElem? he) h4
      refine ⟨_,_,hr,?_,hK⟩
      refine .tup _ [e.key,e.val] rfl ?_
      intro i c v hc hv
      match i with
      | 0=>simp at hc hv; subst hc; subst hv; rw [q1]; exact aR.ofValue _
      | 1=>simp at hc hv; subst hc; subst hv; exact q2
      | (n + 2)=>simp at hc
   ·exact h.elim
  ·exact h.elim
 ·exact h.elim
theorem SA {P:Program}{G:aL}{objs:List Obj}{w:World} (hm:Mem G objs w) {o b:Nat}{e:Nat}{buf:AV} (ho:objs[o]?=some (.bld e buf)) (hb:G.bl[o]?=some (.obj b)) {xs:List AV}{us:List Value}
  (hx:cQ G w xs us) (h1:nK us) (hl:xs.length=1) :
  ∃ w',(storeCells ⟨b,1,none⟩ us).run P w=.ok () w'∧bO G w G w'∧Mem G (objs.set o (.bld e (xs.getD 0 .any))) w':=by
 obtain ⟨g,hg,hok⟩:=hm.obj ho
 rw [hb] at hg; cases hg
 obtain ⟨b',c0,c1,hbe,hh,h2,h3,h4,h5⟩:=hok
 cases hbe
 have hlo:o < objs.length:=(List.getElem?_eq_some_iff.1 ho).1
 match xs,us,hl,hx with
 | [x],[u],_,hx=>
  have hu:=h1 0 u rfl
  have hcu:=hx.2 0 x u rfl rfl
  have hrun:=run_storeCells_at P b 1 e [u] 0 #[c0,c1] w hh (by simp) (fun v hv=>by
   simp at hv; subst hv; exact hu)
  have hw:I4 w (w.setRow b ((#[c0,c1].toList.take (1 + 0) ++ [u] ++ #[c0,c1].toList.drop (1 + 0 + [u].length)).toArray)) b (.cells #[c0,u] e (0,0)) :=
   ⟨setRow_heap w b #[c0,c1] _ e (0,0) hh,fun j hj=>setRow_other w b j _ (Ne.symm hj),by simp,rfl,rfl,⟨rfl,Nat.le_refl _⟩⟩
  obtain ⟨s1,s3⟩:=hw.step hm hlo hb h5
  exact ⟨_,hrun,s1,s3 _ ⟨b,c0,u,rfl,hw.at',h2,hu,hcu.mono s1.ext,h5⟩⟩
 | [_],[],_,hx=>exact absurd hx.1 (by simp)
 | [_],_ :: _ :: _,_,hx=>exact absurd hx.1 (by simp)
end Go.Proofs.YthgenmkengbmmaaGreatDoor.AM
namespace Go.Proofs.YthgenmkengbmmaaGreatDoor.AM
open Go
def EY (P:Program) (src dst:TypeId) (x:AV) (k:AV→Prop):Prop :=
 match ti P src,ti P dst,x with
 | some _,some j,.v (.string s)=>
  match j.desc with
  | .slice e=>(ti P e).map TI.desc=some (.int .u8)∧s.size≤140737488355328∧k (.sl (qH s.data.toList) .none)
  | _=>False
 | _,_,_=>False
theorem Hn (w:World) (e:TypeId) (s:ByteArray):gP w (Lib.bytesWorld w e s):=by
 refine ⟨fun b hb=>Lib.bytesWorld_at_old w e s b hb,by rw [Lib.bytesWorld_size]; omega,?_,?_,?_⟩
 ·simp [Lib.bytesWorld,World.freeze,World.alloc,World.drew,-World.alloc_eq,-World.drew_eq]
 ·simp [Lib.bytesWorld,World.freeze,World.alloc,World.drew,-World.alloc_eq,-World.drew_eq]
 ·simp [Lib.bytesWorld,World.freeze,World.alloc,World.drew,-World.alloc_eq,-World.drew_eq]
theorem Ob {P:Program}{G:aL}{objs:List Obj}{w:World}{src dst:TypeId}{x:AV}{v:Value}{k:AV→Prop}
  (h:EY P src dst x k) (hm:Mem G objs w) (hx:aR G w x v) :
  ∃ r y G' w',(convert src dst v).run P w=.ok r w'∧bO G w G' w'∧Mem G' objs w'∧aR G' w' y r∧k y:=by
 unfold EY at h
 split at h
 ·rename_i i j s hi hj
  split at h
  ·rename_i e hd
   obtain ⟨he,hs,hk⟩:=h
   have:=r6 hx
   subst this
   cases hte:ti P e with
   | none=>rw [hte] at he; cases he
   | some ei=>
    rw [hte] at he
    simp only [Option.map_some,Option.some.injEq] at he
    have u1:P.underlying src=some i.desc:=(b5 hi).1
    have u2:P.underlying dst=some (.slice e):=by rw [← hd]; exact (b5 hj).1
    have u3:P.underlying e=some (.int .u8):=by rw [← he]; exact (b5 hte).1
    obtain ⟨s1,s2⟩:=gP.step hm (Hn w e s) (imm':=fun b off=>G.imm b off ∨ (b=w.heap.size∧off < s.size)) (fun _ _ h=>.inl h) (fun b off h=>by
     rcases h with h | ⟨rfl,_⟩
     ·exact .inl h
     ·exact .inr ⟨Nat.le_refl _,by rw [Lib.bytesWorld_size]; omega⟩)
    refine ⟨_,.sl (qH s.data.toList) .none,_,_,Lib.run_convert_string_bytes w src dst e s u1 u2 u3,s1,s2,?_,hk⟩
    have hsl:s.data.toList.length=s.size:=Array.length_toList
    have hlen:(qH s.data.toList).length=s.size:=by unfold qH; rw [List.length_map,hsl]
    refine .sl _ _ _ ⟨some ⟨w.heap.size,0,none⟩,grownCap w s.size 0 e,by rw [hlen],by rw [hlen]; exact grownCap_ge w s.size 0 e,grownCap_le_maxLen w s.size 0 e (Nat.le_trans hs (by decide)),.inr ⟨w.heap.size,0,1,rfl,?_,?_⟩⟩ trivial
    ·intro q r hr
     simp only [qH,List.getElem?_map] at hr
     cases hq:s.data.toList[q]? with
     | none=>rw [hq] at hr; cases hr
     | some b=>rw [hq] at hr; cases hr; rfl
    ·intro q c r d hr hrd
     simp only [qH,List.getElem?_map] at hr
     cases hq:s.data.toList[q]? with
     | none=>rw [hq] at hr; cases hr
     | some b=>
      rw [hq] at hr
      cases hr
      have hc:c=0:=by
       cases c with
       | zero=>rfl
       | succ c=>simp at hrd
      subst hc
      simp at hrd
      subst hrd
      have hql:q < s.size:=by
       rw [← hsl]; exact (List.getElem?_eq_some_iff.1 hq).1
      refine ⟨.int .u8 (b.toNat:Int),?_,.inr ⟨rfl,by omega⟩,.v _ rfl⟩
      have:=Lib.bytesWorld_cell w e s q hql
      rw [List.getD_eq_getElem?_getD,hq] at this
      simpa using this
  ·exact h.elim
 ·exact h.elim
def MK (P:Program) (t:TypeId) (len:Nat) (parts:List (Nat × AV)) (objs:List Obj) (k:AV→List Obj→Prop):Prop :=
 len=0∧parts=[]∧∃ i e j,ti P t=some i∧i.desc=.slice e∧ti P e=some j∧0 < j.size∧k (.sl [] (.own objs.length)) (objs ++ [.tok 0 j.size e true])
theorem R0 {G:aL}{objs:List Obj}{w:World} (hm:Mem G objs w) (e sz:Nat) :
  ∃ G',bO G w G' (w.alloc (.cells #[] e))∧Mem G' (objs ++ [.tok 0 sz e true]) (w.alloc (.cells #[] e)) ∧
   aR G' (w.alloc (.cells #[] e)) (.sl [] (.own objs.length)) (.slice (some ⟨w.heap.size,0,none⟩) 0 0):=by
 obtain ⟨hs,hm'⟩:=gP.step hm ((gP.refl w).alloc (.cells #[] e)) (imm':=G.imm) (fun _ _ h=>h) (fun _ _ h=>.inl h)
 have hnb:∀ b,(GB.tok w.heap.size 0 0 sz true).blk=some b→w.heap.size≤b:=by intro b hb; simp [GB.blk] at hb; omega
 refine ⟨⟨G.bl ++ [.tok w.heap.size 0 0 sz true],G.imm⟩,hs.push _ hnb,?_,?_⟩
 ·refine Mem.push (G:=⟨G.bl,G.imm⟩) hm' ?_ ?_
  ·refine .inr ⟨w.heap.size,0,#[],rfl,eG w _,by simp,Nat.le_refl _,by simp [maxLen],?_,fun h=>by cases h⟩
   intro _ off hi
   have:=hm.immLt.1 _ _ hi
   omega
  ·intro b hb
   simp [GB.blk] at hb
   subst hb
   refine ⟨by simp,?_⟩
   intro o g' hg' hb'
   have:=hm.lt o g' _ hg' hb'
   omega
 ·refine .sl [] _ _ (SlC.nil _ 0 (by simp [maxLen])) (.inr ⟨w.heap.size,0,0,sz,true,by rw [← hm.len]; simp,Nat.le_refl _,fun _=>rfl⟩)
theorem Pq {P:Program}{G:aL}{objs:List Obj}{w:World}{t:TypeId}{len:Nat}{parts:List (Nat × AV)}{vparts:List (Nat × Value)}{k:AV→List Obj→Prop}
  (h:MK P t len parts objs k) (hm:Mem G objs w) (hl:parts.length=vparts.length) :
  ∃ r y objs' G' w',(Instr.buildSlice t len vparts.toArray).run P w=.ok r w'∧bO G w G' w'∧Mem G' objs' w'∧aR G' w' y r∧k y objs':=by
 obtain ⟨rfl,rfl,i,e,j,hi,hd,hj,hs0,hk⟩:=h
 have hv:vparts=[]:=List.length_eq_zero_iff.1 hl.symm
 subst hv
 obtain ⟨G',s1,s2,s3⟩:=R0 hm e j.size
 refine ⟨_,_,_,G',_,?_,s1,s2,s3,hk⟩
 have hu:=eH hi w
 rw [hd] at hu
 have hz:(Go.sizeOf e).run P w=.ok j.size w:=dL hj w
 simp only [Instr.buildSlice,Sem.run_bind,hu,Result.andThen_ok,dL hj,Sem.run_ite,Sem.run_pure,Nat.zero_mul,if_pos]
 rw [if_neg (by decide),show Array.range 0=#[] from by simp]
 have hf:Instr.fill (fun i=>some (i * j.size,j.size)) (Array.map (fun x=>(#[]:Array Value)[x % (#[]:Array Value).size]!) #[]) []=some #[]:=by simp [Instr.fill]
 simp only [hf]
 rfl
def Hi (P:Program) (t:TypeId) (len:Nat) (parts:List (Nat × AV)) (objs:List Obj) (k:AV→List Obj→Prop):Prop :=
 match ti P t with
 | some i=>
  match i.desc with
  | .slice e=>
   match ti P e with
   | some j=>
    0 < j.size∧len * j.size≤16777216 ∧
    (match jZ (fun q=>some (q * j.size,j.size)) (sS j.zero j.size len) parts with
    | some out=>(match sQ j.size out len with | some rows=>k (.sl rows (.own objs.length)) (objs ++ [.tok rows.length j.size e true]) | none=>False)
    | none=>False)
   | none=>False
  | _=>False
 | none=>False
theorem Ry {P:Program}{G:aL}{objs:List Obj}{w:World}{t:TypeId}{len:Nat}{parts:List (Nat × AV)}{vparts:List (Nat × Value)}{k:AV→List Obj→Prop}
  (h:Hi P t len parts objs k) (hm:Mem G objs w) (hl:parts.length=vparts.length)
  (hp:∀ (i:Nat) (p:Nat × AV) (q:Nat × Value),parts[i]?=some p→vparts[i]?=some q→p.1=q.1∧aR G w p.2 q.2) :
  ∃ r y objs' G' w',(Instr.buildSlice t len vparts.toArray).run P w=.ok r w'∧bO G w G' w'∧Mem G' objs' w'∧aR G' w' y r∧k y objs':=by
 unfold Hi at h
 split at h
 ·rename_i i hi
  split at h
  ·rename_i e hd
   split at h
   ·rename_i j hj
    obtain ⟨hs0,hbig,h⟩:=h
    split at h
    ·rename_i out hout
     split at h
     ·rename_i rows hrows
      have hu:=eH hi w
      rw [hd] at hu
      obtain ⟨z,hz,hzc⟩:=ET hj w
      obtain ⟨z1,z2⟩:=Ej (G:=G) (w:=w) hj hs0 len
      obtain ⟨res,hr,hr2,hr3⟩:=xT hl hp z1 z2 hout
      have hol:out.length=len * j.size:=by rw [xE hout]; simp [sS]
      obtain ⟨k1,k2,k3⟩:=AW len hrows hol hr2 hr3
      have hrl:res.length=len * j.size:=by rw [hr2.1,hol]
      have hcap:len≤maxLen:=by
       have:len≤len * j.size:=Nat.le_mul_of_pos_right _ hs0
       simp only [maxLen]; omega
      obtain ⟨s1,s2⟩:=gP.step hm ((gP.refl w).alloc (.cells res.toArray e)) (imm':=G.imm) (fun _ _ h=>h) (fun _ _ h=>.inl h)
      have hnb:∀ b,(GB.tok w.heap.size len len j.size true).blk=some b→w.heap.size≤b:=by intro b hb; simp [GB.blk] at hb; omega
      have hzl:=(b5 hj).2
      refine ⟨.slice (some ⟨w.heap.size,0,none⟩) len len,.sl rows (.own objs.length),_,⟨G.bl ++ [.tok w.heap.size len len j.size true],G.imm⟩,_,?_,s1.push _ hnb,?_,?_,h⟩
      ·have hsz:j.zero.length=j.size:=by obtain ⟨f,z',_,_,_,_,_,hh,_⟩:=hzl; exact hh
       have hzs:z.cells.size=j.size:=by rw [hzc]; simp [hsz]
       have hbig':¬ (len * j.size > 2 ^ 24):=by omega
       simp only [Instr.buildSlice,Sem.run_bind,hu,Result.andThen_ok,dL hj,Sem.run_ite,if_neg hbig',Sem.run_pure]
       have hfill:Instr.fill (fun q=>some (q * j.size,j.size)) ((Array.range (len * j.size)).map fun q=>(if len * j.size=0 then (#[]:Array Value) else z.cells)[q % (if len * j.size=0 then (#[]:Array Value) else z.cells).size]!) vparts=some res.toArray:=by
        rw [← hr]
        congr 1
        by_cases h0:len * j.size=0
        ·simp [h0]
        ·rw [if_neg h0,hzs]
         exact zV z.cells j.zero hzc j.size (len * j.size)
       by_cases h0:len * j.size=0
       ·rw [if_pos h0] at hfill
        simp only [if_pos h0,Sem.run_pure,Result.andThen_ok,hfill]
        rfl
       ·rw [if_neg h0] at hfill
        simp only [if_neg h0,Sem.run_bind,hz,Sem.run_pure,Result.andThen_ok,hfill]
        rfl
      ·refine Mem.push (G:=⟨G.bl,G.imm⟩) s2 ?_ ?_
       ·refine .inr ⟨w.heap.size,len,res.toArray,by rw [k1],eG w _,by simp [hrl],by rw [k1]; exact Nat.le_refl _,hcap,?_,fun h=>by cases h⟩
        intro _ off hi
        have:=hm.immLt.1 _ _ hi
        omega
       ·intro b hb
        simp [GB.blk] at hb
        subst hb
        refine ⟨by simp,?_⟩
        intro o g' hg' hb'
        have:=hm.lt o g' _ hg' hb'
        omega
      ·have hgl:(G.bl ++ [GB.tok w.heap.size len len j.size true])[objs.length]?=some (.tok w.heap.size len len j.size true):=by rw [← hm.len]; simp
       refine .sl rows (.own objs.length) _ ?_ (.inr ⟨w.heap.size,len,len,j.size,true,hgl,by omega,fun _=>rfl⟩)
       refine ⟨some ⟨w.heap.size,0,none⟩,len,by rw [k1],by omega,hcap,.inr ⟨w.heap.size,0,j.size,rfl,?_⟩⟩
       refine jJ.rowsAt k2 (k3.mono s1.ext.cell s1.ext.imm) ?_ ?_
       ·intro q u hq
        rw [lM (eG w _),Nat.zero_add]
        simpa using hq
       ·intro q hq
        rw [Nat.zero_add]
        exact .inr ⟨len,len,j.size,hgl,by rw [← k1]; exact hq⟩
     ·exact h.elim
    ·exact h.elim
   ·exact h.elim
  ·exact h.elim
 ·exact h.elim
def Qa (P:Program) (t:TypeId) (len:Nat) (parts:List (Nat × AV)) (objs:List Obj) (k:AV→List Obj→Prop):Prop:=MK P t len parts objs k ∨ Hi P t len parts objs k
theorem RT {P:Program}{G:aL}{objs:List Obj}{w:World}{t:TypeId}{len:Nat}{parts:List (Nat × AV)}{vparts:List (Nat × Value)}{k:AV→List Obj→Prop}
  (h:Qa P t len parts objs k) (hm:Mem G objs w) (hl:parts.length=vparts.length)
  (hp:∀ (i:Nat) (p:Nat × AV) (q:Nat × Value),parts[i]?=some p→vparts[i]?=some q→p.1=q.1∧aR G w p.2 q.2) :
  ∃ r y objs' G' w',(Instr.buildSlice t len vparts.toArray).run P w=.ok r w'∧bO G w G' w'∧Mem G' objs' w'∧aR G' w' y r∧k y objs' :=
 h.elim (fun h=>Pq h hm hl) (fun h=>Ry h hm hl hp)
inductive gC where
 | ret (x:AV) | pan (x:AV)
def AG (G:aL) (w:World):gC→Ending→Prop
 | .ret x,.returned v=>aR G w x v
 | .pan x,.panicked chain=>∃ v,chain=[{ v,recovered:=false }]∧aR G w x v
 | _,_=>False
def cZ (P:Program) (f:Nat) (args:List AV) (objs:List Obj) (R:gC→List Obj→Prop):Prop :=
 ∀ (G:aL) (w:World) (vs:List Value),Mem G objs w→cQ G w args vs →
  Calls P f vs.toArray w fun e w'=>∃ ae objs' G',R ae objs'∧Mem G' objs' w'∧bO G w G' w'∧AG G' w' ae e
theorem cZ.mono {P:Program}{f:Nat}{args:List AV}{objs:List Obj}{R R':gC→List Obj→Prop} (h:cZ P f args objs R) (hr:∀ e o,R e o→R' e o):cZ P f args objs R' :=
 fun G w vs hm hc=>(h G w vs hm hc).mono fun _ _ ⟨ae,objs',G',h1,h2⟩=>⟨ae,objs',G',hr _ _ h1,h2⟩
def aU (P:Program) (f:Nat):Bool :=
 match P.funcs[f]? with
 | some fn=>!(fn.name == "runtime.NumGoroutine") && fn.body.isSome
 | none=>false
def WV (K:AV→List Obj→Prop) (E:AV→List Obj→Prop):gC→List Obj→Prop
 | .ret x,objs=>K x objs
 | .pan x,objs=>E x objs
def Q6 (P:Program) (f:Nat) (args:List AV) (objs:List Obj) (K:AV→List Obj→Prop) (E:AV→List Obj→Prop):Prop :=
 aU P f=true∧cZ P f args objs (WV K E)
def Ck (x:AV) (k:AV→Prop):Prop :=
 match x with
 | .ptr o off=>k (.ptr o off)
 | .ep rows i off t=>k (.ep rows i off t)
 | .fn f a b=>k (.fn f a b)
 | _=>False
def u7 (P:Program) (objs:List Obj) (t:TypeId) (a x:AV) (k:List Obj→Prop):Prop :=
 match ti P t,a,i6 x with
 | some i,.ptr o off,some xs=>
  match objs[o]? with
  | some (.box cells)=>xs.length=i.size∧off + xs.length≤cells.length∧k (objs.set o (.box (setFrom cells off xs)))
  | some (.bld e _)=>off=1∧i.size=1∧xs.length=1∧k (objs.set o (.bld e (xs.getD 0 .any)))
  | _=>False
 | _,_,_=>False
def yT (least:Bool) (xs:List AV) (k:AV→Prop):Prop :=
 match xs with
 | [.v (.int q a),.v (.int _ b)]=>k (.v (.int q (if least then min a b else max a b)))
 | _=>False
def dR (P:Program) (b:Builtin) (ts:List TypeId) (xs:List AV) (objs:List Obj) (k:AV→List Obj→Prop):Prop :=
 match b with
 | .len=>(match ts,xs with | [t],[x]=>tW P t x (fun r=>k r objs) ∨ rV P objs t x (fun r=>k r objs) | _,_=>False)
 | .delete=>(match ts,xs with | [t,_],[m,x]=>Co P objs t m x (fun objs=>k .any objs) | _,_=>False)
 | .append=>(match ts,xs with | [t,xt],[s,x]=>k9 P t xt objs s x k | _,_=>False)
 | .copy=>(match ts,xs with | [t,_],[d,x]=>Lh P t objs d x k | _,_=>False)
 | .min=>yT true xs (fun r=>k r objs)
 | .max=>yT false xs (fun r=>k r objs)
 | _=>False
def AV.boolUn:AV→Option (Bool × Bool)
 | .v (.bool b)=>some (true,b)
 | .cnd g (.v (.bool b))=>some (g,b)
 | .cnd false _=>some (false,false)
 | _=>none
def y6 (c x y:AV) (k:AV→Prop):Prop :=
 match c,x.boolUn,y.boolUn with
 | .v (.bool t),some (g,p),some (h,q)=>(t=true→g=true)∧(t=false→h=true)∧k (.v (.bool (bif t then p else q)))
 | .v (.bool t),some (g,p),none=>t=true∧g=true∧k (.v (.bool p))
 | .v (.bool t),none,some (h,q)=>t=false∧h=true∧k (.v (.bool q))
 | _,_,_=>False
def KR:TypeDesc→Bool
 | .interface _=>true
 | _=>false
def aop (P:Program) (o:Oper) (s:AS) (K:AS→Prop) (E:AV→AS→Prop):Prop :=
 match o.op with
 | .move x=>K (s.put o.dst (s.eval x))
 | .assign x=>K (s.put o.dst (s.eval x))
 | .pick c a b=>y6 (s.eval c) (s.raw a) (s.raw b) (fun r=>K (s.put o.dst r))
 | .nilCheck x=>Ck (s.eval x) (fun r=>K (s.put o.dst r))
 | .alloc e=>(match ti P e with
  | some i=>K { s.put o.dst (.ptr s.objs.length 0) with objs:=s.objs ++ [.box (i.zero.map .v)] } ∨
    (i.zero=[.pointer none,.slice none 0 0]∧∃ b,K { s.put o.dst (.ptr s.objs.length 0) with objs:=s.objs ++ [.bld e (.sl [] (.own (s.objs.length + 1))),.tok 0 1 b true] })
  | none=>False)
 | .box e x=>(match ti P e,i6 (s.eval x) with | some _,some cs=>K { s.put o.dst (.ptr s.objs.length 0) with objs:=s.objs ++ [.box cs] } | _,_=>False)
 | .build t parts=>BI P t (parts.toList.map fun p=>(p.1,s.eval p.2)) (fun r=>K (s.put o.dst r))
 | .buildSlice t len parts=>o6 P t len (parts.toList.map fun p=>(p.1,s.eval p.2)) (fun r=>K (s.put o.dst r)) ∨ Qa P t len (parts.toList.map fun p=>(p.1,s.eval p.2)) s.objs (fun r objs=>K { s.put o.dst r with objs:=objs })
 | .load t a=>kK P s.objs t (s.eval a) (fun r=>K (s.put o.dst r))
 | .store t a x=>u7 P s.objs t (s.eval a) (s.eval x) (fun objs=>K { s.put o.dst .any with objs:=objs })
 | .binOp op t x y _=>Ax P op t (s.eval x) (s.eval y) (fun r=>K (s.put o.dst r))
 | .unOp op _ x=>PN op (s.eval x) (fun r=>K (s.put o.dst r))
 | .convert src dst x=>zB P src dst (s.eval x) (fun r=>K (s.put o.dst r)) ∨ EY P src dst (s.eval x) (fun r=>K (s.put o.dst r))
 | .makeFunc fn first cap=>(match fn with | .func f=>K (s.put o.dst (.fn f (first.toList.map s.eval) (cap.toList.map s.eval))) | _=>False)
 | .makeSlice t l c=>u9 P t s.objs (s.eval l) (s.eval c) (fun r objs=>K { s.put o.dst r with objs:=objs })
 | .slice t x lo hi mx=>p8 P t (s.eval x) (lo.map s.eval) (hi.map s.eval) (mx.map s.eval) (fun r=>K (s.put o.dst r))
 | .fieldAddr t x f=>iM P t f (s.eval x) (fun r=>K (s.put o.dst r))
 | .field t x f=>yK P t f (s.eval x) (fun r=>K (s.put o.dst r))
 | .indexAddr t x i=>kU P t (s.eval x) (s.eval i) (fun r=>K (s.put o.dst r))
 | .index t x i=>qA P t (s.eval x) (s.eval i) (fun r=>K (s.put o.dst r))
 | .makeMap _ r=>(match r with | none=>K { s.put o.dst (.map s.objs.length) with objs:=s.objs ++ [.map []] } | some _=>False)
 | .lookup t m k ok=>y8 P s.objs t (s.eval m) (s.eval k) ok (fun r=>K (s.put o.dst r))
 | .mapUpdate t m k x=>q8 P s.objs t (s.eval m) (s.eval k) (s.eval x) (fun objs=>K { s.put o.dst .any with objs:=objs })
 | .range t x=>EW P s.objs t (s.eval x) (fun r objs=>K { s.put o.dst r with objs:=objs })
 | .next x b=>QC s.objs (s.eval x) b (fun r objs=>K { s.put o.dst r with objs:=objs })
 | .entry x=>E7 s.objs (s.eval x) (fun r=>K (s.put o.dst r))
 | .extract x i=>Ar (s.eval x) i (fun r=>K (s.put o.dst r))
 | .call c=>
  (match c.callee with
  | .builtin b=>dR P b c.argTypes.toList (c.args.toList.map s.eval) s.objs (fun r objs=>K { s.put o.dst r with objs:=objs })
  | .value f=>
   (match s.eval f with
   | .fn g first cap=>Q6 P g (first ++ c.args.toList.map s.eval ++ cap) s.objs (fun r objs=>K { s.put o.dst r with objs:=objs }) (fun x objs=>E x ⟨s.tmps,objs⟩)
   | _=>False)
  | _=>False)
 | .makeInterface t x=>(match ti P t,s8 (s.eval x) with
  | some i,some v=>KR i.desc=false∧K (s.put o.dst (.v (.iface t v)))
  | _,_=>False)
 | .typeAssert x _ t ok=>(match s.eval x,ti P t with
  | .v (.iface t' v),some i=>KR i.desc=false∧t'=t∧ok=true∧K (s.put o.dst (.tup [AV.ofValue v,.v (.bool true)]))
  | _,_=>False)
 | .panic x=>(match s.eval x with
  | .v (.iface t v)=>E (.v (.iface t v)) s
  | _=>False)
 | _=>False
def HS [Df] (K:AS→Prop) (G:aL) (w:World) (a':Act) (w':World):Prop:=∃ s' G',K s'∧Sat G' s' a' w'∧bO G w G' w'
theorem yP [Df] {G:aL}{s:AS}{a:Act}{w:World} (h:Sat G s a w) (xs:List Operand):cQ G w (xs.map s.eval) (xs.map a.eval):=by
 refine ⟨by simp,fun i x v hx hv=>?_⟩
 simp only [List.getElem?_map] at hx hv
 cases hq:xs[i]? with
 | none=>simp [hq] at hx
 | some q=>
  simp only [hq,Option.map_some,Option.some.injEq] at hx hv
  subst hx; subst hv
  exact h.eval q
theorem Aj [Df] {G:aL}{s:AS}{a:Act}{w:World} (h:Sat G s a w) (ps:List (Nat × Operand)) :
  ∀ (i:Nat) (p:Nat × AV) (q:Nat × Value),(ps.map fun p=>(p.1,s.eval p.2))[i]?=some p→(ps.map fun p=>(p.1,a.eval p.2))[i]?=some q→p.1=q.1∧aR G w p.2 q.2:=by
 intro i p q hp hq
 simp only [List.getElem?_map] at hp hq
 cases hx:ps[i]? with
 | none=>simp [hx] at hp
 | some x=>
  simp only [hx,Option.map_some,Option.some.injEq] at hp hq
  subst hp; subst hq
  exact ⟨rfl,h.eval x.2⟩
theorem Fc [Df] {G:aL}{s:AS}{a:Act}{w:World} (h:Sat G s a w) (x:Option Operand):yB G w (x.map s.eval) (x.map a.eval):=by
 cases x with
 | none=>trivial
 | some x=>exact h.eval x
section ops
variable {P:Program}{o:Oper}{a:Act}{w:World}{next:Act→World→Prop}{Q:Exit→Act→World→Prop}
theorem eW {x:Sem Value}{r:Value}{w':World} (he:execOp a.eval o=(do pure (.value (← x)))) (hr:x.run P w=.ok r w') (h:next (a.put o.dst r) w'):o.wp P a w next Q:=by
 unfold Oper.wp
 rw [he]
 simp only [Sem.run_bind,hr,Result.andThen_ok,Sem.run_pure]
 exact h
variable {G:aL}{s:AS}{K:AS→Prop}
theorem eJ [Df] {x:Sem Value} (hs:Sat G s a w) (he:execOp a.eval o=(do pure (.value (← x))))
  (h:∃ r y,x.run P w=.ok r w∧aR G w y r∧K (s.put o.dst y)):o.wp P a w (HS K G w) Q:=by
 obtain ⟨r,y,h1,h2,h3⟩:=h
 exact eW he h1 ⟨_,G,h3,hs.put0 o.dst h2,bO.refl G w⟩
theorem C4 [Df] {x:Sem Value} (hs:Sat G s a w) (he:execOp a.eval o=(do pure (.value (← x))))
  (h:∃ r y objs' G' w',x.run P w=.ok r w'∧bO G w G' w'∧Mem G' objs' w'∧aR G' w' y r∧K { s.put o.dst y with objs:=objs' }):o.wp P a w (HS K G w) Q:=by
 obtain ⟨r,y,objs',G',w',h1,h2,h3,h4,h5⟩:=h
 exact eW he h1 ⟨_,G',h5,hs.put h2.ext h3 o.dst h4,h2⟩
end ops
theorem TL {P:Program}{w:World} (ts:Array TypeId) (ty:TypeId) (q q':IntKind) (a b:Int):(Builtin.min_ ts ty #[.int q a,.int q' b]).run P w=.ok (.int q (min a b)) w:=by
 have:(if b < a then b else a)=min a b:=by split <;> omega
 simp [Builtin.min_,Builtin.min2,this]
theorem Uv {P:Program}{w:World} (ts:Array TypeId) (ty:TypeId) (q q':IntKind) (a b:Int):(Builtin.max_ ts ty #[.int q a,.int q' b]).run P w=.ok (.int q (max a b)) w:=by
 have:(if b > a then b else a)=max a b:=by split <;> omega
 simp [Builtin.max_,Builtin.max2,this]
theorem tH {P:Program}{G:aL}{w:World}{least:Bool}{xs:List AV}{vs:List Value}{k:AV→Prop} (ts:Array TypeId) (ty:TypeId) (h:yT least xs k) (hc:cQ G w xs vs) :
  ∃ r y,((if least then Builtin.min_ ts ty vs.toArray else Builtin.max_ ts ty vs.toArray):Sem Value).run P w=.ok r w∧aR G w y r∧k y:=by
 unfold yT at h
 split at h
 ·rename_i q a q' b
  obtain ⟨hl,hc⟩:=hc
  match vs,hl,hc with
  | [u,v],_,hc=>
   have h1:=hc 0 _ u rfl rfl
   have h2:=hc 1 _ v rfl rfl
   cases h1; cases h2
   cases least
   ·exact ⟨_,_,Uv ts ty q q' a b,.v _ rfl,h⟩
   ·exact ⟨_,_,TL ts ty q q' a b,.v _ rfl,h⟩
 ·exact h.elim
theorem Kz {P:Program}{G:aL}{objs:List Obj}{w:World}{b:Builtin}{ts:Array TypeId}{xs:List AV}{vs:List Value}{k:AV→List Obj→Prop} (ty:TypeId) (consts:Array Bool)
  (h:dR P b ts.toList xs objs k) (hm:Mem G objs w) (hc:cQ G w xs vs) :
  ∃ x:Sem Value,builtin b ts ty consts vs.toArray=(do pure (.value (← x)))∧∃ r y objs' G' w',x.run P w=.ok r w'∧bO G w G' w'∧Mem G' objs' w'∧aR G' w' y r∧k y objs':=by
 obtain ⟨ts⟩:=ts
 simp only at h
 cases b <;> simp only [dR] at h <;> try exact h.elim
 case append=>
  split at h
  ·rename_i t xt s x
   obtain ⟨hl,hc⟩:=hc
   match vs,hl,hc with
   | [u,v],_,hc=>exact ⟨_,rfl,Mm h hm (hc 0 _ u rfl rfl) (hc 1 _ v rfl rfl) ty⟩
  ·exact h.elim
 case len=>
  split at h
  ·rename_i t x
   obtain ⟨hl,hc⟩:=hc
   match vs,hl,hc with
   | [u],_,hc=>
    rcases h with h | h
    ·obtain ⟨r,y,h1,h2,h3⟩:=Aw (P:=P) #[t] ty h (hc 0 _ u rfl rfl) rfl
     exact ⟨_,rfl,r,y,objs,G,w,h1,bO.refl G w,hm,h2,h3⟩
    ·obtain ⟨r,y,h1,h2,h3⟩:=D1 (P:=P) #[t] ty h hm (hc 0 _ u rfl rfl) rfl
     exact ⟨_,rfl,r,y,objs,G,w,h1,bO.refl G w,hm,h2,h3⟩
  ·exact h.elim
 case delete=>
  split at h
  ·rename_i t t2 m x
   obtain ⟨hl,hc⟩:=hc
   match vs,hl,hc with
   | [u,v],_,hc=>
    obtain ⟨objs',w',h1,h2,h3,h4⟩:=MS (P:=P) (t2:=t2) ty h hm (hc 0 _ u rfl rfl) (hc 1 _ v rfl rfl)
    exact ⟨_,rfl,_,.any,objs',G,w',h1,h2,h3,.any _,h4⟩
  ·exact h.elim
 case copy=>
  split at h
  ·rename_i t t2 d x
   obtain ⟨hl,hc⟩:=hc
   match vs,hl,hc with
   | [u,v],_,hc=>
    obtain ⟨r,y,objs',w',h1,h2,h3,h4,h5⟩:=Qh (P:=P) (t2:=t2) ty h hm (hc 0 _ u rfl rfl) (hc 1 _ v rfl rfl)
    exact ⟨_,rfl,r,y,objs',G,w',h1,h2,h3,h4,h5⟩
  ·exact h.elim
 case max=>
  obtain ⟨r,y,h1,h2,h3⟩:=tH (P:=P) ts.toArray ty h hc
  exact ⟨_,rfl,r,y,objs,G,w,h1,bO.refl G w,hm,h2,h3⟩
 case min=>
  obtain ⟨r,y,h1,h2,h3⟩:=tH (P:=P) ts.toArray ty h hc
  exact ⟨_,rfl,r,y,objs,G,w,h1,bO.refl G w,hm,h2,h3⟩
theorem N5 {P:Program}{G:aL}{objs:List Obj}{w:World}{t:TypeId}{x y:AV}{u v:Value}{k:List Obj→Prop} (h:u7 P objs t x y k) (hm:Mem G objs w) (hx:aR G w x u) (hy:aR G w y v) :
  ∃ objs' w',(Instr.storeAt t u v).run P w=.ok () w'∧bO G w G w'∧Mem G objs' w'∧k objs':=by
 unfold u7 at h
 split at h
 ·rename_i i o off xs hi hcx
  split at h
  ·rename_i cells hob
   obtain ⟨h1,h2,hk⟩:=h
   cases hx with
   | ptr _ _ b hb=>
    obtain ⟨us,e1,e2,e3,e4⟩:=uD hy hcx
    obtain ⟨w',k1,k2,k3⟩:=HB (P:=P) hm hob hb ⟨e2,e4⟩ e3 h2
    refine ⟨_,w',?_,k2,k3,hk⟩
    have hsz:¬ (us.length ≠ i.size):=by omega
    simp [Instr.storeAt,Instr.sureAddr,storeVar,e1,dL hi,e2,h1,k1]
  ·rename_i e buf hob
   obtain ⟨rfl,hs,h1,hk⟩:=h
   cases hx with
   | ptr _ _ b hb=>
    obtain ⟨us,e1,e2,e3,e4⟩:=uD hy hcx
    obtain ⟨w',k1,k2,k3⟩:=SA (P:=P) hm hob hb ⟨e2,e4⟩ e3 h1
    refine ⟨_,w',?_,k2,k3,hk⟩
    simp [Instr.storeAt,Instr.sureAddr,storeVar,e1,dL hi,e2,h1,hs,k1]
  ·exact h.elim
 ·exact h.elim
theorem MM {P:Program}{w:World}{f:Nat}{vs:Array Value} (h:aU P f=true):(callFunc f vs).run P w=.ok (.enter f vs) w:=by
 unfold aU at h
 split at h
 ·rename_i fn hf
  simp only [Bool.and_eq_true,Bool.not_eq_true',Option.isSome_iff_exists] at h
  obtain ⟨h1,b,h2⟩:=h
  have h3:¬ fn.name = "runtime.NumGoroutine" := by simpa using h1
  simp [callFunc,run_program,hf,h3,h2]
 ·cases h
theorem fP {G:aL}{w:World}{x u:Value} (h:aR G w (.v x) u):u=x:=by cases h; rfl
theorem I3 {G:aL}{w:World}{f:Nat}{first cap:List AV}{u:Value} (h:aR G w (.fn f first cap) u) :
  ∃ vf vc:List Value,u=.func (.func f) vf.toArray vc.toArray∧cQ G w first vf∧cQ G w cap vc:=by
 cases h with
 | fn _ _ _ vf vc h1 h2 h3 h4=>exact ⟨vf,vc,rfl,⟨h1,h3⟩,⟨h2,h4⟩⟩
theorem cQ.append {G:aL}{w:World}{xs ys:List AV}{us vs:List Value} (h:cQ G w xs us) (k:cQ G w ys vs):cQ G w (xs ++ ys) (us ++ vs):=by
 refine ⟨by simp [h.1,k.1],fun i x v hx hv=>?_⟩
 rcases Nat.lt_or_ge i xs.length with hl | hl
 ·rw [List.getElem?_append_left hl] at hx
  rw [List.getElem?_append_left (by rw [h.1]; exact hl)] at hv
  exact h.2 i x v hx hv
 ·rw [List.getElem?_append_right hl] at hx
  rw [List.getElem?_append_right (by rw [h.1]; exact hl),h.1] at hv
  exact k.2 _ x v hx hv
theorem BD {G:aL}{w:World}{x:AV}{u:Value}{k:AV→Prop} (h:Ck x k) (hx:aR G w x u) :
  k x∧((∃ a,u=.pointer (some a)) ∨ ∃ f p q,u=.func (.func f) p q):=by
 cases hx <;> first
  | exact h.elim
  | exact ⟨h,.inl ⟨_,rfl⟩⟩
  | exact ⟨h,.inr ⟨_,_,_,rfl⟩⟩
theorem iR {G:aL}{w:World}{x:AV}{u:Value}{g b:Bool} (h:x.boolUn=some (g,b)) (hc:aR G w x u) (hg:g=true):u=.bool b:=by
 unfold AV.boolUn at h
 split at h
 ·cases h; exact fP hc
 ·cases h
  cases hc with
  | cnd _ _ _ hh _=>exact fP (hh hg)
 ·cases h; cases hg
 ·cases h
theorem Hl {G:aL}{w:World}{c x y:AV}{u v z:Value}{k:AV→Prop} (h:y6 c x y k) (hc:aR G w c u) (hx:aR G w x v) (hy:aR G w y z) :
  ∃ t r,u=.bool t∧Value.bool r=(if t then v else z)∧k (.v (.bool r)):=by
 unfold y6 at h
 split at h
 ·rename_i t g p h' q e1 e2
  obtain ⟨h1,h2,hk⟩:=h
  refine ⟨t,_,fP hc,?_,hk⟩
  cases t
  ·simp only [Bool.false_eq_true,if_false]; exact (iR e2 hy (h2 rfl)).symm
  ·simp only [if_true]; exact (iR e1 hx (h1 rfl)).symm
 ·rename_i t g p e1 e2
  obtain ⟨rfl,h2,hk⟩:=h
  exact ⟨true,_,fP hc,by simp only [if_true]; exact (iR e1 hx h2).symm,hk⟩
 ·rename_i t h' q e1 e2
  obtain ⟨rfl,h2,hk⟩:=h
  exact ⟨false,_,fP hc,by simp only [Bool.false_eq_true,if_false]; exact (iR e2 hy h2).symm,hk⟩
 ·exact h.elim
theorem nA [Df] {P:Program}{o:Oper}{G:aL}{s:AS}{a:Act}{w:World}{K:AS→Prop}{E:AV→AS→Prop}{Q:Exit→Act→World→Prop}
  (h:aop P o s K E) (hs:Sat G s a w) (hE:∀ x s' G' v w',E x s'→Sat G' s' a w'→bO G w G' w'→aR G' w' x v→Q (.panic [{ v,recovered:=false }]) a w') :
  o.wp P a w (HS K G w) Q:=by
 unfold aop at h
 split at h
 ·rename_i x ho
  refine eW (x:=pure (a.eval x)) (by simp [execOp,ho]) rfl ⟨_,G,h,hs.put0 o.dst (hs.eval x),bO.refl G w⟩
 ·rename_i x ho
  refine eW (x:=pure (a.eval x)) (by simp [execOp,ho]) rfl ⟨_,G,h,hs.put0 o.dst (hs.eval x),bO.refl G w⟩
 ·rename_i c x y ho
  obtain ⟨t,r,hcv,hr,hk⟩:=Hl h (hs.eval c) (hs.raw x) (hs.raw y)
  refine eW (x:=pure (if t then a.eval x else a.eval y)) ?_ rfl ⟨_,G,hk,?_,bO.refl G w⟩
  ·cases t <;> simp [execOp,ho,hcv,asBool]
  ·refine hs.put0 o.dst ?_
   rw [← hr]
   exact .v _ rfl
 ·rename_i x ho
  obtain ⟨hk,hsh⟩:=BD h (hs.eval x)
  refine eW (x:=pure (a.eval x)) ?_ rfl ⟨_,G,hk,hs.put0 o.dst (hs.eval x),bO.refl G w⟩
  rcases hsh with ⟨ad,hu⟩ | ⟨f,p,q,hu⟩
  ·simp [execOp,ho,hu]
  ·simp [execOp,ho,hu]
 ·rename_i e ho
  split at h
  ·rename_i i hi
   obtain ⟨z,hz,hzc⟩:=ET hi w
   obtain ⟨z1,z2⟩:=J2 (G:=G) (w:=w) hi
   obtain ⟨G',s1,s2,s3⟩:=GG hs.mem z1 z2 e
   have hrun:(Instr.alloc e true (.tuple #[])).run P w=.ok (.pointer (some ⟨w.heap.size,0,none⟩)) (w.alloc (.cells i.zero.toArray e)):=by simp [Instr.alloc,hz,newVar,newRow,hzc]
   rcases h with h | ⟨hz0,bb,h⟩
   ·exact eW (x:=Instr.alloc e true (.tuple #[])) (by simp [execOp,ho]) hrun ⟨_,G',h,hs.put s1.ext s2 o.dst s3,s1⟩
   ·have hl':G'.bl.length=s.objs.length + 1:=by rw [s2.len]; simp
    obtain ⟨gg,hg,hok⟩:=s2.obj (o:=s.objs.length) (x:=.box (i.zero.map .v)) (by simp)
    rcases hok with ⟨h0,_⟩ | ⟨b,c,e',rfl,k1,k2,k3,k4⟩
    ·rw [hz0] at h0; cases h0
    ·have hbs:w.heap.size=b:=by
      cases s3 with
      | ptr _ _ b' hb'=>rw [hg] at hb'; cases hb'; rfl
     subst hbs
     rw [eG] at k1
     cases k1
     have m1:=s2.push (g:=.full 0) (x:=.tok 0 1 bb true) (.inl ⟨rfl,fun _=>rfl⟩) (fun b hb=>by cases hb)
     have hg2:(G'.bl ++ [GB.full 0])[s.objs.length]?=some (.obj w.heap.size):=by rw [List.getElem?_append_left (by omega)]; exact hg
     have hbuf:aR ⟨G'.bl ++ [.full 0],G'.imm⟩ (w.alloc (.cells i.zero.toArray e)) (.sl [] (.own (s.objs.length + 1))) (.slice none 0 0):=by
      refine .sl [] _ _ (SlC.nil _ _ (Nat.zero_le _)) (.inl ⟨0,?_,Nat.le_refl _,fun _=>⟨none,rfl,fun _=>rfl⟩⟩)
      show (G'.bl ++ [GB.full 0])[s.objs.length + 1]?=_
      rw [← hl']; simp
     have m2:=m1.retell hg2 (x:=.bld e (.sl [] (.own (s.objs.length + 1)))) ⟨w.heap.size,.pointer none,.slice none 0 0,rfl,by rw [eG,hz0],.inl rfl,rfl,hbuf,k4⟩
     have hset:((s.objs ++ [Obj.box (i.zero.map .v)] ++ [Obj.tok 0 1 bb true]).set s.objs.length (Obj.bld e (.sl [] (.own (s.objs.length + 1)))))=s.objs ++ [Obj.bld e (.sl [] (.own (s.objs.length + 1))),Obj.tok 0 1 bb true]:=by
      rw [List.append_assoc,List.set_append_right _ _ (Nat.le_refl _),Nat.sub_self]; rfl
     rw [hset] at m2
     have e2:=rW G' (w.alloc (.cells i.zero.toArray e)) (.full 0)
     have st2:bO G w ⟨G'.bl ++ [.full 0],G'.imm⟩ (w.alloc (.cells i.zero.toArray e)):=s1.push _ (fun b hb=>by cases hb)
     exact eW (x:=Instr.alloc e true (.tuple #[])) (by simp [execOp,ho]) hrun ⟨_,_,h,hs.put st2.ext m2 o.dst (s3.mono e2),st2⟩
  ·exact h.elim
 ·rename_i e x ho
  split at h
  ·rename_i i cs hi hcs
   obtain ⟨vs,e1,e2,e3,e4⟩:=uD (hs.eval x) hcs
   obtain ⟨G',s1,s2,s3⟩:=GG hs.mem ⟨e2,e4⟩ e3 e
   refine eW (x:=Instr.box e (a.eval x)) (by simp [execOp,ho]) ?_ ⟨_,G',h,hs.put s1.ext s2 o.dst s3,s1⟩
   simp [Instr.box,newVar,newRow,e1]
  ·exact h.elim
 ·rename_i t parts ho
  have:=Fk (P:=P) h (vparts:=parts.toList.map fun p=>(p.1,a.eval p.2)) (by simp) (Aj hs parts.toList)
  rw [← List.map_toArray,Array.toArray_toList] at this
  exact eJ hs (by simp [execOp,ho]) this
 ·rename_i t len parts ho
  rcases h with h | h
  ·obtain ⟨r,y,G',w',h1,h2,h3,h4,h5⟩:=GH (P:=P) h hs.mem (vparts:=parts.toList.map fun p=>(p.1,a.eval p.2)) (by simp) (Aj hs parts.toList)
   rw [← List.map_toArray,Array.toArray_toList] at h1
   exact eW (by simp only [execOp,ho]) h1 ⟨_,G',h5,hs.put h2.ext h3 o.dst h4,h2⟩
  ·obtain ⟨r,y,objs',G',w',h1,h2,h3,h4,h5⟩:=RT (P:=P) h hs.mem (vparts:=parts.toList.map fun p=>(p.1,a.eval p.2)) (by simp) (Aj hs parts.toList)
   rw [← List.map_toArray,Array.toArray_toList] at h1
   exact eW (by simp only [execOp,ho]) h1 ⟨_,G',h5,hs.put h2.ext h3 o.dst h4,h2⟩
 ·rename_i t x ho
  exact eJ hs (by simp only [execOp,ho]) (CZ (P:=P) h hs.mem (hs.eval x))
 ·rename_i t x y ho
  obtain ⟨objs',w',h1,h2,h3,h4⟩:=N5 (P:=P) h hs.mem (hs.eval x) (hs.eval y)
  unfold Oper.wp
  simp only [execOp,ho,Sem.run_bind,h1,Result.andThen_ok,Sem.run_pure]
  exact ⟨_,G,h4,hs.put h2.ext h3 o.dst (.any _),h2⟩
 ·rename_i op t x y ty ho
  exact eJ hs (by simp only [execOp,ho]) (JK (P:=P) x y h (hs.eval x) (hs.eval y))
 ·rename_i op t x ho
  exact eJ hs (by simp only [execOp,ho]) (Ml (P:=P) h (hs.eval x))
 ·rename_i src dst x ho
  rcases h with h | h
  ·exact eJ hs (by simp only [execOp,ho]) (PM (P:=P) h (hs.eval x))
  ·obtain ⟨r,y,G',w',h1,h2,h3,h4,h5⟩:=Ob (P:=P) h hs.mem (hs.eval x)
   exact eW (by simp only [execOp,ho]) h1 ⟨_,G',h5,hs.put h2.ext h3 o.dst h4,h2⟩
 ·rename_i fn first cap ho
  split at h
  ·rename_i f
   have e1:=yP hs first.toList
   have e2:=yP hs cap.toList
   refine eJ (x:=Instr.makeFunc (.func f) (first.map a.eval) (cap.map a.eval)) hs (by simp only [execOp,ho]) ⟨_,_,rfl,?_,h⟩
   have:=aR.fn (G:=G) (w:=w) f _ _ _ _ e1.1 e2.1 e1.2 e2.2
   rwa [← List.map_toArray,← List.map_toArray,Array.toArray_toList,Array.toArray_toList] at this
  ·exact h.elim
 ·rename_i t l c ho
  exact C4 hs (by simp only [execOp,ho]) (HG (P:=P) h hs.mem (hs.eval l) (hs.eval c))
 ·rename_i t x lo hi mx ho
  exact eJ hs (by simp only [execOp,ho]) (Fp (P:=P) h (hs.eval x) (Fc hs lo) (Fc hs hi) (Fc hs mx))
 ·rename_i t x f ho
  exact eJ hs (by simp only [execOp,ho]) (s6 (P:=P) h (hs.eval x))
 ·rename_i t x f ho
  exact eJ hs (by simp only [execOp,ho]) (FA (P:=P) h (hs.eval x))
 ·rename_i t x i ho
  exact eJ hs (by simp only [execOp,ho]) (Av (P:=P) h (hs.eval x) (hs.eval i))
 ·rename_i t x i ho
  exact eJ hs (by simp only [execOp,ho]) (FY (P:=P) h (hs.eval x) (hs.eval i))
 ·rename_i t r ho
  split at h
  ·obtain ⟨G',s1,s2,s3⟩:=M1 hs.mem
   exact eW (x:=Instr.makeMap t none) (by simp [execOp,ho]) (by simp [Instr.makeMap]) ⟨_,G',h,hs.put s1.ext s2 o.dst s3,s1⟩
  ·exact h.elim
 ·rename_i t m k ok ho
  exact eJ hs (by simp only [execOp,ho]) (DL (P:=P) h hs.mem (hs.eval m) (hs.eval k))
 ·rename_i t m k x ho
  obtain ⟨objs',w',h1,h2,h3,h4⟩:=Hf (P:=P) h hs.mem (hs.eval m) (hs.eval k) (hs.eval x)
  unfold Oper.wp
  simp only [execOp,ho,Sem.run_bind,h1,Result.andThen_ok,Sem.run_pure]
  exact ⟨_,G,h4,hs.put h2.ext h3 o.dst (.any _),h2⟩
 ·rename_i t x ho
  exact C4 hs (by simp only [execOp,ho]) (ND (P:=P) h hs.mem (hs.eval x))
 ·rename_i x b ho
  exact C4 hs (by simp only [execOp,ho]) (Py (P:=P) o.type h hs.mem (hs.eval x))
 ·rename_i x ho
  exact eJ hs (by simp only [execOp,ho]) (Nt (P:=P) h hs.mem (hs.eval x))
 ·rename_i x i ho
  exact eJ hs (by simp only [execOp,ho]) (Dt (P:=P) h (hs.eval x))
 ·rename_i c ho
  split at h
  ·rename_i b hb
   obtain ⟨x,hx,hrest⟩:=Kz (P:=P) o.type (c.args.map fun | .const _=>true | _=>false) h hs.mem (yP hs c.args.toList)
   rw [← List.map_toArray,Array.toArray_toList] at hx
   refine C4 (x:=x) hs ?_ hrest
   simp only [execOp,ho,resolve,hb]
   exact hx
  ·rename_i f hf
   split at h
   ·rename_i g first cap hfe
    obtain ⟨hen,hcall⟩:=h
    have hfc:=hs.eval f
    rw [hfe] at hfc
    obtain ⟨vf,vc,hfv,h1,h2⟩:=I3 hfc
    have hargs:=yP hs c.args.toList
    have hall:=cQ.append (cQ.append h1 hargs) h2
    have:=hcall G w _ hs.mem hall
    have hrun:(execOp a.eval o).run P w=.ok (.enter g ((vf ++ c.args.toList.map a.eval ++ vc).toArray)) w:=by
     simp only [execOp,ho,resolve,hf,hfv,Deferred.ofValue,Sem.run_bind,Sem.run_pure,Result.andThen_ok,invoke]
     rw [MM hen]
     congr 2
     apply Array.ext'
     simp
    unfold Oper.wp
    rw [hrun,Oper.upon_enter]
    refine this.mono ?_
    rintro e w' ⟨ae,objs',G',hk,hm',hst,hend⟩
    cases ae with
    | ret x=>
     cases e with
     | returned v=>exact ⟨_,G',hk,hs.put hst.ext hm' o.dst hend,hst⟩
     | panicked chain=>exact hend.elim
     | outgrown=>exact hend.elim
    | pan x=>
     cases e with
     | returned v=>exact hend.elim
     | panicked chain=>
      obtain ⟨v,rfl,hc⟩:=hend
      exact hE x ⟨s.tmps,objs'⟩ G' v w' hk ⟨hm',hs.tmps.mono hst.ext,hs.defers⟩ hst hc
     | outgrown=>exact hend.elim
   ·exact h.elim
  ·exact h.elim
 ·rename_i t x ho
  split at h
  ·rename_i i v hi hv
   have he:=DM hv (hs.eval x)
   refine eJ (x:=Instr.makeInterface t (a.eval x)) hs (by simp only [execOp,ho]) ⟨.iface t v,_,?_,.v _ rfl,h.2⟩
   have h1:=h.1
   rw [he]
   simp only [Instr.makeInterface,Sem.run_bind,eH hi,Result.andThen_ok]
   generalize i.desc=d at h1
   cases d <;> first | rfl | cases h1
  ·exact h.elim
 ·rename_i x xt t ok ho
  split at h
  ·rename_i t' v i hv hi
   obtain ⟨hd,rfl,rfl,hk⟩:=h
   have hc:=hs.eval x
   rw [hv] at hc
   have he:=fP hc
   refine eJ (x:=Instr.typeAssert (a.eval x) xt t' true) hs (by simp only [execOp,ho]) ⟨.tuple #[v,.bool true],_,?_,?_,hk⟩
   ·rw [he]
    simp only [Instr.typeAssert,Sem.run_bind,eH hi,Result.andThen_ok]
    generalize i.desc=d at hd
    cases d <;> first | (simp; done) | cases hd
   ·exact .tup _ [v,.bool true] rfl fun i c u h1 h2=>by
     match i with
     | 0=>simp at h1 h2; subst h1; subst h2; exact aR.ofValue v
     | 1=>simp at h1 h2; subst h1; subst h2; exact .v _ rfl
     | n + 2=>simp at h1
  ·exact h.elim
 ·rename_i x ho
  split at h
  ·rename_i t v hv
   have hc:=hs.eval x
   rw [hv] at hc
   have he:=fP hc
   unfold Oper.wp
   have hrun:(execOp a.eval o).run P w=.halt (.panic (.iface t v)) w:=by
    simp only [execOp,ho,he,Sem.run_bind]
    rfl
   rw [hrun]
   exact hE _ _ G _ w h hs (bO.refl G w) (.v _ rfl)
  ·exact h.elim
 ·exact h.elim
def isQ:Op→Bool
 | .move _ | .assign _ | .pick .. | .nilCheck _ | .build .. | .load .. | .binOp .. | .unOp .. | .slice .. | .fieldAddr .. | .field .. | .indexAddr .. | .index .. | .lookup .. | .extract ..=>true
 | .call c=>(match c.callee with | .builtin b=>(match b with | .len=>true | .min=>true | .max=>true | _=>false) | _=>false)
 | _=>false
def Ly [Df] (K:AS→Prop) (G:aL) (w:World) (a':Act):Prop:=∃ s',K s'∧Sat G s' a' w
section
variable {P:Program}{o:Oper}{a:Act}{w:World}{G:aL}{s:AS}{K:AS→Prop}
theorem jS {x:Sem Value}{r:Value}{next:Act→Prop} (he:execOp a.eval o=(do pure (.value (← x)))) (hr:x.run P w=.ok r w) (h:next (a.put o.dst r)) :
  ∃ u,(execOp a.eval o).run P w=.ok (.value u) w∧next (a.put o.dst u):=by
 refine ⟨r,?_,h⟩
 rw [he]
 simp only [Sem.run_bind,hr,Result.andThen_ok,Sem.run_pure]
theorem fY [Df] {x:Sem Value} (hs:Sat G s a w) (he:execOp a.eval o=(do pure (.value (← x))))
  (h:∃ r y,x.run P w=.ok r w∧aR G w y r∧K (s.put o.dst y)):∃ u,(execOp a.eval o).run P w=.ok (.value u) w∧Ly K G w (a.put o.dst u):=by
 obtain ⟨r,y,h1,h2,h3⟩:=h
 exact jS he h1 ⟨_,h3,hs.put0 o.dst h2⟩
end
theorem Jb {P:Program}{G:aL}{objs:List Obj}{w:World}{b:Builtin}{ts:Array TypeId}{xs:List AV}{vs:List Value}{k:AV→List Obj→Prop} (ty:TypeId) (consts:Array Bool)
  (hq:(match b with | .len=>true | .min=>true | .max=>true | _=>false)=true) (h:dR P b ts.toList xs objs k) (hm:Mem G objs w) (hc:cQ G w xs vs) :
  ∃ x:Sem Value,builtin b ts ty consts vs.toArray=(do pure (.value (← x)))∧∃ r y,x.run P w=.ok r w∧aR G w y r∧k y objs:=by
 obtain ⟨ts⟩:=ts
 simp only at h
 cases b <;> simp only [dR] at h <;> first | exact h.elim | (simp at hq; done) | skip
 case len=>
  split at h
  ·rename_i t x
   obtain ⟨hl,hc⟩:=hc
   match vs,hl,hc with
   | [u],_,hc=>
    rcases h with h | h
    ·obtain ⟨r,y,h1,h2,h3⟩:=Aw (P:=P) #[t] ty h (hc 0 _ u rfl rfl) rfl
     exact ⟨_,rfl,r,y,h1,h2,h3⟩
    ·obtain ⟨r,y,h1,h2,h3⟩:=D1 (P:=P) #[t] ty h hm (hc 0 _ u rfl rfl) rfl
     exact ⟨_,rfl,r,y,h1,h2,h3⟩
  ·exact h.elim
 case max=>
  obtain ⟨r,y,h1,h2,h3⟩:=tH (P:=P) ts.toArray ty h hc
  exact ⟨_,rfl,r,y,h1,h2,h3⟩
 case min=>
  obtain ⟨r,y,h1,h2,h3⟩:=tH (P:=P) ts.toArray ty h hc
  exact ⟨_,rfl,r,y,h1,h2,h3⟩
theorem H4 [Df] {P:Program}{o:Oper}{G:aL}{s:AS}{a:Act}{w:World}{K:AS→Prop}{E:AV→AS→Prop} (hq:isQ o.op=true)
  (h:aop P o s K E) (hs:Sat G s a w):∃ u,(execOp a.eval o).run P w=.ok (.value u) w∧Ly K G w (a.put o.dst u):=by
 unfold aop at h
 split at h
 ·rename_i x ho
  refine jS (x:=pure (a.eval x)) (by simp [execOp,ho]) rfl ⟨_,h,hs.put0 o.dst (hs.eval x)⟩
 ·rename_i x ho
  refine jS (x:=pure (a.eval x)) (by simp [execOp,ho]) rfl ⟨_,h,hs.put0 o.dst (hs.eval x)⟩
 ·rename_i c x y ho
  obtain ⟨t,r,hcv,hr,hk⟩:=Hl h (hs.eval c) (hs.raw x) (hs.raw y)
  refine jS (x:=pure (if t then a.eval x else a.eval y)) ?_ rfl ⟨_,hk,?_⟩
  ·cases t <;> simp [execOp,ho,hcv,asBool]
  ·refine hs.put0 o.dst ?_
   rw [← hr]
   exact .v _ rfl
 ·rename_i x ho
  obtain ⟨hk,hsh⟩:=BD h (hs.eval x)
  refine jS (x:=pure (a.eval x)) ?_ rfl ⟨_,hk,hs.put0 o.dst (hs.eval x)⟩
  rcases hsh with ⟨ad,hu⟩ | ⟨f,p,q,hu⟩
  ·simp [execOp,ho,hu]
  ·simp [execOp,ho,hu]
 ·rename_i e ho
  simp [isQ,ho] at hq
 ·rename_i e x ho
  simp [isQ,ho] at hq
 ·rename_i t parts ho
  have:=Fk (P:=P) h (vparts:=parts.toList.map fun p=>(p.1,a.eval p.2)) (by simp) (Aj hs parts.toList)
  rw [← List.map_toArray,Array.toArray_toList] at this
  exact fY hs (by simp [execOp,ho]) this
 ·rename_i t len parts ho
  simp [isQ,ho] at hq
 ·rename_i t x ho
  exact fY hs (by simp only [execOp,ho]) (CZ (P:=P) h hs.mem (hs.eval x))
 ·rename_i t x y ho
  simp [isQ,ho] at hq
 ·rename_i op t x y ty ho
  exact fY hs (by simp only [execOp,ho]) (JK (P:=P) x y h (hs.eval x) (hs.eval y))
 ·rename_i op t x ho
  exact fY hs (by simp only [execOp,ho]) (Ml (P:=P) h (hs.eval x))
 ·rename_i src dst x ho
  simp [isQ,ho] at hq
 ·rename_i fn first cap ho
  simp [isQ,ho] at hq
 ·rename_i t l c ho
  simp [isQ,ho] at hq
 ·rename_i t x lo hi mx ho
  exact fY hs (by simp only [execOp,ho]) (Fp (P:=P) h (hs.eval x) (Fc hs lo) (Fc hs hi) (Fc hs mx))
 ·rename_i t x f ho
  exact fY hs (by simp only [execOp,ho]) (s6 (P:=P) h (hs.eval x))
 ·rename_i t x f ho
  exact fY hs (by simp only [execOp,ho]) (FA (P:=P) h (hs.eval x))
 ·rename_i t x i ho
  exact fY hs (by simp only [execOp,ho]) (Av (P:=P) h (hs.eval x) (hs.eval i))
 ·rename_i t x i ho
  exact fY hs (by simp only [execOp,ho]) (FY (P:=P) h (hs.eval x) (hs.eval i))
 ·rename_i t r ho
  simp [isQ,ho] at hq
 ·rename_i t m k ok ho
  exact fY hs (by simp only [execOp,ho]) (DL (P:=P) h hs.mem (hs.eval m) (hs.eval k))
 ·rename_i t m k x ho
  simp [isQ,ho] at hq
 ·rename_i t x ho
  simp [isQ,ho] at hq
 ·rename_i x b ho
  simp [isQ,ho] at hq
 ·rename_i x ho
  simp [isQ,ho] at hq
 ·rename_i x i ho
  exact fY hs (by simp only [execOp,ho]) (Dt (P:=P) h (hs.eval x))
 ·rename_i c ho
  split at h
  ·rename_i b hb
   obtain ⟨x,hx,r,y,h1,h2,h3⟩:=Jb (P:=P) o.type (c.args.map fun | .const _=>true | _=>false) (by simpa [isQ,ho,hb] using hq) h hs.mem (yP hs c.args.toList)
   rw [← List.map_toArray,Array.toArray_toList] at hx
   refine fY (x:=x) hs ?_ ⟨r,y,h1,h2,by cases hd:o.dst <;> simpa [AS.put,hd] using h3⟩
   simp only [execOp,ho,resolve,hb]
   exact hx
  ·rename_i f hf
   simp [isQ,ho,hf] at hq
  ·exact h.elim
 ·rename_i ho; simp [isQ,ho] at hq
 ·rename_i ho; simp [isQ,ho] at hq
 ·rename_i ho; simp [isQ,ho] at hq
 ·exact h.elim
def yD:List AV→Nat→List Nat→List AV
 | [],_,_=>[]
 | x :: xs,n,L=>(bif L.contains n then x else .any) :: yD xs (n + 1) L
theorem kY:∀ (xs:List AV) (n:Nat) (L:List Nat),(yD xs n L).length=xs.length
 | [],_,_=>rfl
 | x :: xs,n,L=>by simp [yD,kY xs]
theorem r4:∀ (xs:List AV) (n:Nat) (L:List Nat) (i:Nat),(yD xs n L)[i]?=(xs[i]?).map fun x=>bif L.contains (n + i) then x else .any
 | [],_,_,_=>rfl
 | x :: xs,n,L,0=>rfl
 | x :: xs,n,L,i + 1=>by
  simp only [yD,List.getElem?_cons_succ]
  rw [r4 xs (n + 1) L i]
  congr 2
  funext x
  rw [show n + 1 + i=n + (i + 1) from by omega]
def AS.keep (s:AS) (L:List Nat):AS:={ s with tmps:=yD s.tmps 0 L }
theorem mG {s:AS}{dst:Option Nat}{x:AV}{L:List Nat} (h:∀ d,dst=some d→d ∉ L):(s.put dst x).keep L=s.keep L:=by
 cases dst with
 | none=>rfl
 | some d=>
  simp only [AS.put,AS.keep,AS.mk.injEq,and_true]
  apply List.ext_getElem?
  intro i
  rw [r4,r4,List.getElem?_set]
  by_cases hd:d=i
  ·subst hd
   have hn:L.contains (0 + d)=false:=by simpa using h d rfl
   simp only [hn,cond_false,if_true]
   split
   ·rename_i hl; simp [List.getElem?_eq_getElem hl]
   ·rename_i hl; rw [List.getElem?_eq_none (by omega)]; try rfl
  ·rw [if_neg hd]
theorem zG {s:AS}{d e:Option Nat}{x y:AV} (h:∀ i,d=some i→e ≠ some i):(s.put d x).put e y=(s.put e y).put d x:=by
 cases d with
 | none=>cases e <;> rfl
 | some i=>
  cases e with
  | none=>rfl
  | some j=>
   have hne:i ≠ j:=fun he=>h i rfl (by rw [he])
   simp only [AS.put,AS.mk.injEq,and_true]
   exact List.set_comm _ _ hne
theorem rY [Df] {G:aL}{s:AS}{a:Act}{w:World} (hs:Sat G s a w) (L:List Nat):Sat G (s.keep L) a w:=by
 refine ⟨hs.mem,⟨by simp only [AS.keep,kY]; exact hs.tmps.1,fun i x v hx hv=>?_⟩,hs.defers⟩
 simp only [AS.keep,r4] at hx
 cases hq:s.tmps[i]? with
 | none=>simp [hq] at hx
 | some z=>
  simp only [hq,Option.map_some,Option.some.injEq] at hx
  subst hx
  cases L.contains (0 + i)
  ·exact .any v
  ·exact hs.tmps.2 i z v hq hv
def Tk.idsLt (n:Nat):Tk→Bool
 | .own o=>decide (o < n)
 | _=>true
mutual
def AV.idsLt (n:Nat):AV→Bool
 | .v _=>true
 | .sl _ t=>t.idsLt n
 | .agg cs=>AV.idsLtL n cs
 | .tup cs=>AV.idsLtL n cs
 | .ptr o _=>decide (o < n)
 | .ep _ _ _ t=>t.idsLt n
 | .bsl o _ _=>decide (o < n)
 | .map o=>decide (o < n)
 | .fn _ a b=>AV.idsLtL n a && AV.idsLtL n b
 | .cnd _ x=>x.idsLt n
 | .any=>true
def AV.idsLtL (n:Nat):List AV→Bool
 | []=>true
 | x :: xs=>x.idsLt n && AV.idsLtL n xs
end
def Obj.idsLt (n:Nat):Obj→Bool
 | .box cs=>AV.idsLtL n cs
 | .map es=>es.all fun e=>e.2.idsLt n
 | .mapB _ _ es=>es.all fun e=>e.2.idsLt n
 | .iter m _ _=>decide (m < n)
 | .bld _ buf=>buf.idsLt n
 | _=>true
theorem dM {n:Nat}:∀ {xs:List AV},AV.idsLtL n xs=true→∀ (i:Nat) (x:AV),xs[i]?=some x→x.idsLt n=true
 | [],_,i,x,h=>by simp at h
 | y :: ys,hb,i,x,h=>by
  simp only [AV.idsLtL,Bool.and_eq_true] at hb
  cases i with
  | zero=>simp at h; subst h; exact hb.1
  | succ i=>exact dM hb.2 i x (by simpa using h)
theorem fA {α:Type}{l:List α}{n o:Nat}{x:α} (ho:o < n) (h:l[o]?=some x):(l.take n)[o]?=some x:=by
 rw [List.getElem?_take,if_pos ho]; exact h
theorem C9 {G:aL}{n:Nat}{t:Tk} (ht:t.idsLt n=true) {b off:Nat} (h:G.im t b off):aL.im ⟨G.bl.take n,G.imm⟩ t b off:=by
 cases t with
 | none=>exact h
 | exact=>exact h
 | own o=>
  simp only [Tk.idsLt,decide_eq_true_eq] at ht
  rcases h with h | ⟨len,cap,sz,h1,h2⟩
  ·exact .inl h
  ·exact .inr ⟨len,cap,sz,fA ht h1,h2⟩
theorem aR.trunc {G:aL}{w:World}{n:Nat}{x:AV}{v:Value} (h:aR G w x v):x.idsLt n=true→aR ⟨G.bl.take n,G.imm⟩ w x v:=by
 induction h with
 | v x hx=>exact fun _=>.v x hx
 | any x=>exact fun _=>.any x
 | cnd g y x _ h' ih=>exact fun hb=>.cnd g y x (fun hg=>ih hg (by simpa [AV.idsLt] using hb)) h'
 | sl rows t x hd ht=>
  intro hb
  simp only [AV.idsLt] at hb
  refine .sl rows t x (hd.mono (fun _ _ _=>rfl) (fun b off h=>C9 hb h) (fun _ _ _=>rfl) (fun _ _ h=>h)) ?_
  cases t with
  | none=>trivial
  | exact=>exact ht
  | own o=>
   simp only [Tk.idsLt,decide_eq_true_eq] at hb
   rcases ht with ⟨l,h1,h2⟩ | ⟨b,l,c,sz,ex,h1,h2⟩
   ·exact .inl ⟨l,fA hb h1,h2⟩
   ·exact .inr ⟨b,l,c,sz,ex,fA hb h1,h2⟩
 | agg cs vs hl h1 _ ih=>exact fun hb=>.agg cs vs hl h1 fun i c v hc hv=>ih i c v hc hv (dM (by simpa [AV.idsLt] using hb) i c hc)
 | tup cs vs hl _ ih=>exact fun hb=>.tup cs vs hl fun i c v hc hv=>ih i c v hc hv (dM (by simpa [AV.idsLt] using hb) i c hc)
 | ptr o off b h=>exact fun hb=>.ptr o off b (fA (by simpa [AV.idsLt] using hb) h)
 | ep rows i off t b st sz h c ht=>
  intro hb
  simp only [AV.idsLt] at hb
  refine .ep rows i off t b st sz (h.mono (fun _ _ _=>rfl) (fun b off h=>C9 hb h) (fun _ _ _=>rfl) (fun _ _ h=>h)) c ?_
  cases t with
  | none=>trivial
  | exact=>exact ht
  | own o=>
   simp only [Tk.idsLt,decide_eq_true_eq] at hb
   rcases ht with ⟨l,h1,h2⟩ | ⟨b,l,c,sz,ex,h1,h2⟩
   ·exact .inl ⟨l,fA hb h1,h2⟩
   ·exact .inr ⟨b,l,c,sz,ex,fA hb h1,h2⟩
 | bsl o off len cap b h h1 h2=>exact fun hb=>.bsl o off len cap b (fA (by simpa [AV.idsLt] using hb) h) h1 h2
 | bsl0 o off cap a h2=>exact fun _=>.bsl0 o off cap a h2
 | map o b h=>exact fun hb=>.map o b (fA (by simpa [AV.idsLt] using hb) h)
 | fn f first cap vf vc h1 h2 _ _ ih1 ih2=>
  intro hb
  simp only [AV.idsLt,Bool.and_eq_true] at hb
  exact .fn f first cap vf vc h1 h2 (fun i c v hc hv=>ih1 i c v hc hv (dM hb.1 i c hc)) (fun i c v hc hv=>ih2 i c v hc hv (dM hb.2 i c hc))
def cM (n:Nat):List Obj→Bool
 | []=>true
 | x :: xs=>x.idsLt n && cM n xs
theorem rB {n:Nat}:∀ {xs:List Obj},cM n xs=true→∀ (i:Nat) (x:Obj),xs[i]?=some x→x.idsLt n=true
 | [],_,i,x,h=>by simp at h
 | y :: ys,hb,i,x,h=>by
  simp only [cM,Bool.and_eq_true] at hb
  cases i with
  | zero=>simp at h; subst h; exact hb.1
  | succ i=>exact rB hb.2 i x (by simpa using h)
theorem dT {α:Type}{l:List α}{n o:Nat}{x:α} (h:(l.take n)[o]?=some x):o < n∧l[o]?=some x:=by
 rw [List.getElem?_take] at h
 split at h
 ·rename_i ho; exact ⟨ho,h⟩
 ·cases h
theorem Mem.trunc {G:aL}{w:World}{objs extra:List Obj} (hm:Mem G (objs ++ extra) w) (h2:cM objs.length objs=true):Mem ⟨G.bl.take objs.length,G.imm⟩ objs w:=by
 have hlen:G.bl.length=objs.length + extra.length:=by rw [hm.len,List.length_append]
 refine ⟨by simp; omega,?_,?_,?_,hm.immLt⟩
 ·intro o x g hx hg
  obtain ⟨hol,hg'⟩:=dT hg
  have hx':(objs ++ extra)[o]?=some x:=by rw [List.getElem?_append_left hol]; exact hx
  have hok:=hm.ok o x g hx' hg'
  have hb:=rB h2 o x hx
  cases x with
  | box cells=>
   rcases hok with hok | ⟨b,c,e,e1,e2,e3,e4,e5⟩
   ·exact .inl hok
   exact .inr ⟨b,c,e,e1,e2,e3,fun j x v hj hv=>⟨(e4 j x v hj hv).1,(e4 j x v hj hv).2.trunc (dM (by simpa [Obj.idsLt] using hb) j x hj)⟩,e5⟩
  | tok len sz e ex=>exact hok
  | map es=>
   obtain ⟨b,ents,clock,e1,e2,e3,e4,e5,e6⟩:=hok
   refine ⟨b,ents,clock,e1,e2,e3,fun i k y e hi he=>⟨(e4 i k y e hi he).1,(e4 i k y e hi he).2.1.trunc ?_,(e4 i k y e hi he).2.2⟩,e5,e6⟩
   have hall:es.all (fun e=>e.2.idsLt objs.length)=true:=hb
   exact List.all_eq_true.1 hall _ (List.mem_of_getElem? hi)
  | mapB bs clock es=>
   obtain ⟨b,ents,e1,e2,e3,e4,e5,e7,e6⟩:=hok
   refine ⟨b,ents,e1,e2,e3,fun i k y e hi he=>⟨(e4 i k y e hi he).1,(e4 i k y e hi he).2.1.trunc ?_,(e4 i k y e hi he).2.2⟩,e5,e7,e6⟩
   have hall:es.all (fun e=>e.2.idsLt objs.length)=true:=hb
   exact List.all_eq_true.1 hall _ (List.mem_of_getElem? hi)
  | iter m since seen=>
   obtain ⟨b,mb,e1,e2,e3,e4⟩:=hok
   exact ⟨b,mb,e1,fA (by simpa [Obj.idsLt] using hb) e2,e3,e4⟩
  | siter s pos=>exact hok
  | bld e buf=>
   obtain ⟨b,c0,c1,e1,e2,e3,e4,e5,e6⟩:=hok
   exact ⟨b,c0,c1,e1,e2,e3,e4,e5.trunc (by simpa [Obj.idsLt] using hb),e6⟩
  | lin v sz e rows=>exact hok
  | dead=>exact hok
 ·intro o o' g g' b h1 h2; exact hm.inj o o' g g' b (dT h1).2 (dT h2).2
 ·intro o g b h; exact hm.lt o g b (dT h).2
end Go.Proofs.YthgenmkengbmmaaGreatDoor.AM
