/- A4 -/
import Derived.Test.YthgenmkengbmmaaGreatDoorCA3
set_option linter.all false
namespace Go.Proofs.YthgenmkengbmmaaGreatDoor.AM
open Go
structure HU (w w':World) (blk:Nat):Prop where
 heap:∀ j,j ≠ blk→j < w.heap.size→w'.heap[j]?=w.heap[j]?
 size:w.heap.size≤w'.heap.size
 os:w'.os=w.os
 tape:w'.tape=w.tape
 output:w'.output=w.output∧w.drawn≤w'.drawn
def E4 (one:Bool) (l:List Value):Value:=bif one then l.headD undef else .agg l.toArray
def E0 (one:Bool) (l:List D):AV:=bif one then AV.ofD (l.headD default) else .agg (l.map .ofD)
def E6 (P:Program) (f g k:Nat) (one:Bool):Prop :=
 ∀ (α:Type) [Inhabited α] (enc:α→List Value) (cf:α→α→Int) (blk cap:Nat) (d:Array α) (w:World),
  (∀ x,(enc x).length=k)→(∀ x,∀ v ∈ enc x,v.oneCell'=true) →
  (∀ x,¬ cf x x < 0)→(∀ x y z,cf x y < 0→cf y z < 0→cf x z < 0)→(∀ x y z,¬ cf x y < 0→¬ cf y z < 0→¬ cf x z < 0) →
  (∀ W,HU w W blk→∀ x y,Calls P g #[E4 one (enc x),E4 one (enc y)] W fun e w'=>
   e=.returned (.int .i64 (cf x y))∧∃ (q:Nat) (os':Array Go.Obj),w'={ W with heap:=W.heap ++ os',drawn:=W.drawn + q }) →
  (∀ j,j < d.size * k→w.cell? ⟨blk,j,none⟩=some ((enc d[j / k]!)[j % k]!)∧w.frozen? ⟨blk,j,none⟩=false) →
  blk < w.heap.size→d.size < 4611686018427387904 →
  Calls P f #[.slice (some ⟨blk,0,none⟩) d.size cap,.func (.func g) #[] #[]] w fun e w'=>
   e=.returned (.tuple #[])∧HU w w' blk∧∃ d':Array α,d'.toList.Perm d.toList∧d'.toList.Pairwise (fun x y=>¬ cf y x < 0) ∧
    ∀ c e t,w.heap[blk]?=some (.cells c e t)→∃ c',w'.heap[blk]?=some (.cells c' e t)∧c'.size=c.size∧∀ j,j < d.size * k→c'[j]?=some ((enc d'[j / k]!)[j % k]!)
def Gt (P:Program) (f g:Nat):Prop :=
 ∀ (a:Option Addr) (cap:Nat) (w:World),Calls P f #[.slice a 0 cap,.func (.func g) #[] #[]] w fun e w'=>e=.returned (.tuple #[])∧w'=w
theorem Pd {G:aL}{objs:List Obj}{w w':World} (hm:Mem G objs w) {o b:Nat}{cells xs:List AV} (ho:objs[o]?=some (.box cells))
  (hb:G.bl[o]?=some (.obj b)) (ht:HU w w' b) {c':Array Value}{e:TypeId} (hh:w'.heap[b]?=some (.cells c' e (0,0))) (him:∀ off,¬ G.imm b off)
  (hsz:xs.length≤c'.size) (hx:∀ (j:Nat) (x:AV) (v:Value),xs[j]?=some x→c'[j]?=some v→v.oneCell'=true∧aR G w x v) :
  bO G w G w'∧Mem G (objs.set o (.box xs)) w':=by
 have hext:Ext G w G w':=by
  refine ⟨fun t b' o' hi=>?_,fun _ _ _ h=>h,fun _ _ h=>h,fun _ _ h=>.inl h,fun _ b l c sz ex h=>⟨b,l,c,sz,ex,h,.inr ⟨rfl,rfl,rfl⟩⟩⟩
  have hlt:=hm.imLt t b' o' hi
  refine fF (ht.heap b' ?_ hlt) o'
  rintro rfl
  rcases jG hi with hi | ⟨o2,len,cap,sz,_,h1,_⟩
  ·exact him o' hi
  ·have:=hm.inj o o2 _ _ _ hb h1 rfl rfl
   subst this
   rw [hb] at h1; cases h1
 refine ⟨⟨hext,?_,ht.size,ht.os,ht.tape,ht.output,fun _ _ h=>.inl h,fun o g b hg hb=>.inr ⟨o,g,hg,hb⟩⟩,?_⟩
 ·intro k hk hn
  refine ht.heap k ?_ hk
  rintro rfl
  exact hn o _ hb rfl
 ·have hlo:o < objs.length:=by
   rcases Nat.lt_or_ge o objs.length with hl | hl
   ·exact hl
   ·rw [List.getElem?_eq_none hl] at ho; cases ho
  refine ⟨by simp [hm.len],?_,hm.inj,fun o g b' h1 h2=>Nat.lt_of_lt_of_le (hm.lt o g b' h1 h2) ht.size,fun b' off' h=>Nat.lt_of_lt_of_le (hm.immLt.1 b' off' h) ht.size,hm.gl hext⟩
  intro o' y g' ho' hg'
  by_cases heo:o=o'
  ·subst heo
   rw [List.getElem?_set,if_pos rfl,if_pos hlo] at ho'
   cases ho'
   rw [hb] at hg'; cases hg'
   exact .inr ⟨b,c',e,rfl,hh,hsz,fun j x v hj hv=>⟨(hx j x v hj hv).1,(hx j x v hj hv).2.mono hext⟩,him⟩
  ·rw [List.getElem?_set,if_neg heo] at ho'
   refine (hm.ok o' y g' ho' hg').mono hext ?_ (fun _ _ _ h=>h)
   intro b' hb'
   refine ht.heap b' ?_ (hm.lt o' g' b' hg' hb')
   rintro rfl
   exact heo (hm.inj o o' _ _ _ hb hg' rfl hb')
theorem N0 {P:Program}{g:Nat}{args:List AV}{x:AV}{o0:List Obj} (h:Fun P g args x o0) {imm:Nat→Nat→Prop}{W:World} (himm:(∀ b off,imm b off→b < W.heap.size)∧uU imm W) {vs:List Value}
  (hc:cQ ⟨[],imm⟩ W args vs):Calls P g vs.toArray W fun e w'=>(∃ G' v,e=.returned v∧aR G' w' x v)∧∃ (q:Nat) (os':Array Go.Obj),w'={ W with heap:=W.heap ++ os',drawn:=W.drawn + q }:=by
 have hm:Mem ⟨[],imm⟩ [] W:=⟨rfl,fun o x g h=>by simp at h,fun o o' g g' b h=>by simp at h,fun o g b h=>by simp at h,himm⟩
 refine (h ⟨[],imm⟩ W vs hm hc).mono ?_
 rintro e w' ⟨ae,objs',G',⟨rfl,rfl⟩,_,hst,hend⟩
 refine ⟨?_,w'.drawn - W.drawn,w'.heap.extract W.heap.size w'.heap.size,?_⟩
 ·cases e with
  | returned v=>exact ⟨G',v,rfl,hend⟩
  | panicked c=>exact hend.elim
  | outgrown=>exact hend.elim
 ·have hheap:w'.heap=W.heap ++ w'.heap.extract W.heap.size w'.heap.size:=by
   apply Array.ext_getElem?
   intro j
   rcases Nat.lt_or_ge j W.heap.size with hj | hj
   ·rw [Array.getElem?_append_left hj]
    exact hst.heap j hj (fun o g hg=>by simp at hg)
   ·rw [Array.getElem?_append_right hj]
    rw [Array.getElem?_extract]
    have hs:=hst.size
    split
    ·congr 1; omega
    ·rw [Array.getElem?_eq_none]; omega
  have hdr:w'.drawn=W.drawn + (w'.drawn - W.drawn):=by have:=hst.output.2; omega
  obtain ⟨h1,h2,h3,h4,h5⟩:w'.heap=W.heap ++ w'.heap.extract W.heap.size w'.heap.size∧w'.drawn=W.drawn + (w'.drawn - W.drawn)∧w'.os=W.os∧w'.tape=W.tape∧w'.output=W.output:=⟨hheap,hdr,hst.os,hst.tape,hst.output.1⟩
  generalize w'.heap.extract W.heap.size w'.heap.size=os' at *
  generalize w'.drawn - W.drawn=q at *
  cases w'
  cases W
  simp only at h1 h2 h3 h4 h5
  simp [h1,h2,h3,h4,h5]
theorem Qm {P:Program}{f g k:Nat}{one:Bool} (hone1:one=true→k=1) (hs:E6 P f g k one) (hs0:Gt P f g) (hk:0 < k) {objs:List Obj}{o:Nat}{rows:List (List D)} (ho:objs[o]?=some (.box (bT rows))) (hl:∀ r ∈ rows,r.length=k)
  (cf:List D→List D→Int) (h1:∀ x ∈ rows,¬ cf x x < 0) (h2:∀ x ∈ rows,∀ y ∈ rows,∀ z ∈ rows,cf x y < 0→cf y z < 0→cf x z < 0) (h3:∀ x ∈ rows,∀ y ∈ rows,∀ z ∈ rows,¬ cf x y < 0→¬ cf y z < 0→¬ cf x z < 0)
  (hc:∀ x ∈ rows,∀ y ∈ rows,∃ o0,Fun P g [E0 one x,E0 one y] (.v (.int .i64 (cf x y))) o0) (hbig:rows.length < 4611686018427387904) :
  cZ P f [.bsl o 0 rows.length,.fn g [] []] objs (fun ae objs'=>ae=.ret (.tup [])∧∃ rows':List (List D),rows'.Perm rows∧rows'.Pairwise (fun x y=>¬ cf y x < 0)∧objs'=objs.set o (.box (bT rows'))):=by
 intro G w vs hm hcv
 obtain ⟨hlen,hcv⟩:=hcv
 match vs,hlen,hcv with
 | [v1,v2],_,hcv=>
  have c1:=hcv 0 _ v1 rfl rfl
  have c2:=hcv 1 _ v2 rfl rfl
  obtain ⟨vf,vc,rfl,⟨e1,_⟩,⟨e2,_⟩⟩:=I3 c2
  have hvf:vf=[]:=List.eq_nil_of_length_eq_zero e1
  have hvc:vc=[]:=List.eq_nil_of_length_eq_zero e2
  subst hvf; subst hvc
  have hself:objs.set o (.box (bT rows))=objs:=fZ ho
  have empty:rows=[]→∀ a cap,v1=.slice a 0 cap→Calls P f #[v1,.func (.func g) #[] #[]] w fun e w'=>∃ ae objs' G',(ae=gC.ret (.tup [])∧∃ rows':List (List D),rows'.Perm rows∧rows'.Pairwise (fun x y=>¬ cf y x < 0)∧objs'=objs.set o (.box (bT rows')))∧Mem G' objs' w'∧bO G w G' w'∧AG G' w' ae e:=by
   rintro hr a cap rfl
   refine (hs0 a cap w).mono ?_
   rintro e w' ⟨rfl,rfl⟩
   exact ⟨_,objs,G,⟨rfl,rows,.refl _,by rw [hr]; exact .nil,hself.symm⟩,hm,bO.refl G w',.tup [] [] rfl (fun i c v h=>by simp at h)⟩
  generalize hn:rows.length=n at c1
  rcases Nat.eq_zero_or_pos n with hz | hpos
  ·have hr:rows=[]:=List.eq_nil_of_length_eq_zero (by omega)
   subst hz
   cases c1 with
   | bsl _ _ _ cap b h h1 h2=>exact empty hr _ _ rfl
   | bsl0 _ _ cap a h2=>exact empty hr _ _ rfl
  ·cases c1 with
   | bsl0 _ _ cap a h2=>omega
   | bsl _ _ _ cap b hb hcap hmx=>
    obtain ⟨gg,hg,hok⟩:=hm.obj ho
    rw [hb] at hg; cases hg
    rcases hok with ⟨_,l,hl⟩ | ⟨b',c,e,hbe,hh,hsz,hcc,him⟩
    ·cases hl
    cases hbe
    have hlr:∀ (i:Nat) (r:List D),rows[i]?=some r→r.length=k:=fun i r h=>hl r (List.mem_of_getElem? h)
    have hrl:=pN hlr
    rw [hrl,hn] at hsz
    let row:Fin n→List D:=fun i=>rows[i.1]'(by omega)
    have hrow:∀ i:Fin n,rows[i.1]?=some (row i):=fun i=>List.getElem?_eq_getElem (by have:=i.2; omega)
    have hmem:∀ i:Fin n,row i ∈ rows:=fun i=>List.getElem_mem _
    let enc:Fin n→List Value:=fun i=>(c.toList.drop (i.1 * k)).take k
    have hik:∀ i:Fin n,i.1 * k + k≤n * k:=fun i=>by rw [← Nat.succ_mul]; exact Nat.mul_le_mul_right k i.2
    have henc:∀ i,(enc i).length=k:=fun i=>by
     have:=hik i
     simp only [enc,List.length_take,List.length_drop,Array.length_toList]; omega
    have hget:∀ (i:Fin n) (j:Nat),j < k→(enc i)[j]?=c[i.1 * k + j]?:=fun i j hj=>by
     simp only [enc,List.getElem?_take,if_pos hj,List.getElem?_drop,Array.getElem?_toList]
    have hcell:∀ (i:Fin n) (j:Nat) (d:D),(row i)[j]?=some d→∃ v,(enc i)[j]?=some v∧v.oneCell'=true∧eX w G.imm d v:=by
     intro i j d hd
     have hj:j < k:=by
      rw [← hl _ (hmem i)]
      rcases Nat.lt_or_ge j (row i).length with h | h
      ·exact h
      ·rw [List.getElem?_eq_none h] at hd; cases hd
     have hlt:i.1 * k + j < c.size:=by have:=hik i; omega
     have hf:=vX hlr (hrow i) hd
     have hrc:(bT rows)[i.1 * k + j]?=some (.ofD d):=by rw [bT,List.getElem?_map,hf]; rfl
     obtain ⟨k1,k2⟩:=hcc _ _ _ hrc (Array.getElem?_eq_getElem hlt)
     exact ⟨c[i.1 * k + j],by rw [hget i j hj,Array.getElem?_eq_getElem hlt],k1,LQ k2⟩
    have hone:∀ x,∀ v ∈ enc x,v.oneCell'=true:=by
     intro i v hv
     obtain ⟨j,hj,hjv⟩:=List.mem_iff_getElem.1 hv
     rw [henc] at hj
     have hd:=List.getElem?_eq_getElem (l:=row i) (i:=j) (by rw [hl _ (hmem i)]; exact hj)
     obtain ⟨v',h1',h2',_⟩:=hcell i j _ hd
     rw [List.getElem?_eq_getElem (by rw [henc]; exact hj)] at h1'
     cases h1'
     rw [← hjv]; exact h2'
    have:Inhabited (Fin n):=⟨⟨0,hpos⟩⟩
    let d:Array (Fin n):=Array.ofFn id
    have hds:d.size=n:=by simp [d]
    have hblk:b < w.heap.size:=hm.lt o _ b hb rfl
    have hcon:=hs (Fin n) enc (fun i j=>cf (row i) (row j)) b cap d w henc hone (fun i=>h1 _ (hmem i)) (fun i j l=>h2 _ (hmem i) _ (hmem j) _ (hmem l)) (fun i j l=>h3 _ (hmem i) _ (hmem j) _ (hmem l))
     (by
      intro W hW i j
      obtain ⟨o0,hfun⟩:=hc _ (hmem i) _ (hmem j)
      have himm:∀ b off,G.imm b off→b < W.heap.size:=fun b off h=>Nat.lt_of_lt_of_le (hm.immLt.1 b off h) hW.size
      have hcells:∀ (b':Nat) (off:Nat),G.imm b' off→W.cell? ⟨b',off,none⟩=w.cell? ⟨b',off,none⟩:=by
       intro b' off h
       refine fF (hW.heap b' ?_ (hm.immLt.1 b' off h)) off
       rintro rfl
       exact him off h
      have hpk:∀ i:Fin n,aR ⟨[],G.imm⟩ W (.agg ((row i).map .ofD)) (.agg (enc i).toArray)→aR ⟨[],G.imm⟩ W (E0 one (row i)) (E4 one (enc i)):=by
       intro i h
       cases hone:one with
       | false=>exact h
       | true=>
        have hk1:=hone1 hone
        have hd0:=List.getElem?_eq_getElem (l:=row i) (i:=0) (by rw [hl _ (hmem i)]; omega)
        obtain ⟨v',q1,_,q3⟩:=hcell i 0 _ hd0
        have e1:(row i).headD default=(row i)[0]'(by rw [hl _ (hmem i)]; omega):=by rw [List.headD_eq_head?_getD,List.head?_eq_getElem?,hd0]; rfl
        have e2:(enc i).headD undef=v':=by rw [List.headD_eq_head?_getD,List.head?_eq_getElem?,q1]; rfl
        show aR _ _ (AV.ofD ((row i).headD default)) ((enc i).headD undef)
        rw [e1,e2]
        exact nQ (G:=⟨[],G.imm⟩) (q3.mono hcells (fun _ _ h=>h))
      have hagg:∀ i:Fin n,aR ⟨[],G.imm⟩ W (E0 one (row i)) (E4 one (enc i)):=by
       intro i
       refine hpk i ?_
       refine .agg _ _ (by rw [henc,List.length_map,hl _ (hmem i)]) (fun j v hv=>hone i v (List.mem_of_getElem? hv)) ?_
       intro j x v hx hv
       simp only [List.getElem?_map] at hx
       cases hd:(row i)[j]? with
       | none=>simp [hd] at hx
       | some dd=>
        simp only [hd,Option.map_some,Option.some.injEq] at hx
        subst hx
        obtain ⟨v',q1,_,q3⟩:=hcell i j dd hd
        rw [hv] at q1; cases q1
        exact nQ (G:=⟨[],G.imm⟩) (q3.mono hcells (fun _ _ h=>h))
      refine (N0 hfun ⟨himm,hm.immLt.2.mono hcells (fun _ _ h=>h)⟩ (vs:=[E4 one (enc i),E4 one (enc j)]) ⟨rfl,?_⟩).mono ?_
      ·intro p x v hx hv
       match p with
       | 0=>simp at hx hv; subst hx; subst hv; exact hagg i
       | 1=>simp at hx hv; subst hx; subst hv; exact hagg j
       | p + 2=>simp at hx
      ·rintro e' w' ⟨⟨G',v,rfl,hv⟩,hg'⟩
       have:=fP hv
       subst this
       exact ⟨rfl,hg'⟩)
     (by
      intro j hj
      rw [hds] at hj
      have hdiv:j / k < n:=Nat.div_lt_of_lt_mul (by rw [Nat.mul_comm]; exact hj)
      have hmod:j % k < k:=Nat.mod_lt _ hk
      have hdd:d[j / k]! = ⟨j / k,hdiv⟩:=by
       rw [getElem!_pos d (j / k) (by rw [hds]; exact hdiv)]
       simp [d]
      have hjk:j / k * k + j % k=j:=by rw [Nat.mul_comm]; exact Nat.div_add_mod j k
      rw [hdd]
      have hjc:j < c.size:=by omega
      have he:=hget ⟨j / k,hdiv⟩ (j % k) hmod
      simp only [hjk] at he
      rw [Array.getElem?_eq_getElem hjc] at he
      constructor
      ·rw [sP hh,Array.getElem?_eq_getElem hjc,List.getElem!_eq_getElem?_getD,he]; rfl
      ·simp [World.frozen?,hh])
     hblk (by rw [hds,← hn]; exact hbig)
    rw [hds] at hcon
    refine hcon.mono ?_
    rintro e' w' ⟨rfl,hT,d',hp,hpw,hcl⟩
    obtain ⟨c',hh',hsz',hcv'⟩:=hcl c e (0,0) hh
    have hd's:d'.toList.length=n:=by rw [hp.length_eq]; simp [d]
    have hdl:d.toList.map row=rows:=by
     apply List.ext_getElem?
     intro i
     simp only [d,Array.toList_ofFn,List.getElem?_map,List.getElem?_ofFn]
     by_cases hi:i < n
     ·simp only [hi,dif_pos,Option.map_some,id]
      exact (hrow ⟨i,hi⟩).symm
     ·simp only [hi,dif_neg,not_false_eq_true,Option.map_none]
      rw [List.getElem?_eq_none (by omega)]
    have hrl':∀ (i:Nat) (r:List D),(d'.toList.map row)[i]?=some r→r.length=k:=by
     intro i r hr
     obtain ⟨x,_,rfl⟩:=List.mem_map.1 (List.mem_of_getElem? hr)
     exact hl _ (hmem x)
    obtain ⟨s1,s2⟩:=Pd hm ho hb hT hh' him (xs:=bT (d'.toList.map row)) (by rw [pN hrl',List.length_map,hd's,hsz']; exact hsz) (by
     intro j x v hj hv
     simp only [bT,List.getElem?_map] at hj
     cases hfd:(d'.toList.map row).flatten[j]? with
     | none=>simp [hfd] at hj
     | some dd=>
      simp only [hfd,Option.map_some,Option.some.injEq] at hj
      subst hj
      obtain ⟨p,q,r,q1,q2,rfl⟩:=yV hrl' hfd
      have hr:=hrl' p r q1
      have hq:q < k:=by
       rw [← hr]
       rcases Nat.lt_or_ge q r.length with h | h
       ·exact h
       ·rw [List.getElem?_eq_none h] at q2; cases q2
      simp only [List.getElem?_map] at q1
      cases hpx:d'.toList[p]? with
      | none=>simp [hpx] at q1
      | some xi=>
       simp only [hpx,Option.map_some,Option.some.injEq] at q1
       subst q1
       have hpn:p < n:=by
        rw [← hd's]
        rcases Nat.lt_or_ge p d'.toList.length with h | h
        ·exact h
        ·rw [List.getElem?_eq_none h] at hpx; cases hpx
       have hlt:p * k + q < n * k:=by
        have:p * k + k≤n * k:=by rw [← Nat.succ_mul]; exact Nat.mul_le_mul_right k hpn
        omega
       have hv':=hcv' _ hlt
       have e1:(p * k + q) / k=p:=by rw [Nat.mul_comm,Nat.mul_add_div hk,Nat.div_eq_of_lt hq]; rfl
       have e2:(p * k + q) % k=q:=by rw [Nat.mul_comm,Nat.mul_add_mod,Nat.mod_eq_of_lt hq]
       have hpd:d'[p]! = xi:=by
        have hps:p < d'.size:=by rw [← Array.length_toList,hd's]; exact hpn
        rw [getElem!_pos d' p hps]
        have:=hpx
        rw [Array.getElem?_toList,Array.getElem?_eq_getElem hps] at this
        simpa using this
       rw [e1,e2,hpd] at hv'
       rw [hv] at hv'
       obtain ⟨v',r1,r2,r3⟩:=hcell xi q dd q2
       have:v=v':=by
        have hx:=Option.some.inj hv'
        rw [hx,List.getElem!_eq_getElem?_getD,r1]; rfl
       subst this
       exact ⟨r2,nQ r3⟩)
    refine ⟨_,_,G,⟨rfl,d'.toList.map row,?_,?_,rfl⟩,s2,s1,.tup [] [] rfl (fun i c v h=>by simp at h)⟩
    ·have:=hp.map row
     rw [hdl] at this
     exact this
    ·exact List.pairwise_map.2 hpw
theorem Ep:∀ a:List UInt8,Op.bytesLess a a=false
 | []=>rfl
 | x :: a=>by
  simp [Op.bytesLess,Ep a]
theorem Gx:∀ {a b c:List UInt8},Op.bytesLess a b=true→Op.bytesLess b c=true→Op.bytesLess a c=true
 | [],[],_,h,_=>by simp [Op.bytesLess] at h
 | [],_ :: _,[],_,h=>by simp [Op.bytesLess] at h
 | [],_ :: _,_ :: _,_,_=>by simp [Op.bytesLess]
 | _ :: _,[],_,h,_=>by simp [Op.bytesLess] at h
 | _ :: _,_ :: _,[],_,h=>by simp [Op.bytesLess] at h
 | x :: a,y :: b,z :: c,h1,h2=>by
  have ih:=@Gx a b c
  simp only [Op.bytesLess,Bool.or_eq_true,Bool.and_eq_true,decide_eq_true_eq,beq_iff_eq] at *
  rcases h1 with h1 | ⟨rfl,h1⟩
  ·rcases h2 with h2 | ⟨rfl,h2⟩
   ·exact .inl (UInt8.lt_trans h1 h2)
   ·exact .inl h1
  ·rcases h2 with h2 | ⟨rfl,h2⟩
   ·exact .inl h2
   ·exact .inr ⟨rfl,ih h1 h2⟩
theorem Gq:∀ {a b:List UInt8},Op.bytesLess a b=false→Op.bytesLess b a=false→a=b
 | [],[],_,_=>rfl
 | [],_ :: _,h,_=>by simp [Op.bytesLess] at h
 | _ :: _,[],_,h=>by simp [Op.bytesLess] at h
 | x :: a,y :: b,h1,h2=>by
  have ih:=@Gq a b
  simp only [Op.bytesLess,Bool.or_eq_false_iff,Bool.and_eq_false_iff,decide_eq_false_iff_not,beq_eq_false_iff_ne] at *
  have hxy:x=y:=by
   rcases Nat.lt_trichotomy x.toNat y.toNat with h | h | h
   ·exact (h1.1 (UInt8.lt_iff_toNat_lt.2 h)).elim
   ·exact UInt8.toNat_inj.1 h
   ·exact (h2.1 (UInt8.lt_iff_toNat_lt.2 h)).elim
  subst hxy
  rw [ih (h1.2.resolve_left (by simp)) (h2.2.resolve_left (by simp))]
theorem MN (a:ByteArray):j8 a a=false:=Ep _
theorem Nw {a b c:ByteArray} (h:j8 a b=true) (k:j8 b c=true):j8 a c=true:=Gx h k
theorem WG {a b:ByteArray} (h:j8 a b=false) (k:j8 b a=false):a=b:=by
 have:=Gq h k
 cases a; cases b
 simp only [ByteArray.mk.injEq]
 exact Array.toList_inj.1 this
theorem WH {a b:ByteArray} (h:j8 a b=true):j8 b a=false:=by
 cases hb:j8 b a
 ·rfl
 ·have:=Nw h hb; rw [MN] at this; cases this
end Go.Proofs.YthgenmkengbmmaaGreatDoor.AM
namespace Go.Proofs.YthgenmkengbmmaaGreatDoor.AM
open Go Go.RowKit Go.WideShapes Go.ChangeShapes
theorem uT {H:Type}{P:Program}{e:TypeId}{z:Nat}:∀ {l:List (DataW H)}{d:DataW H},d ∈ l→z ∈ d.weights P e→z ∈ DataW.weightsAll P e l
 | [],_,h,_=>by cases h
 | x :: l,d,h,hz=>by
  unfold DataW.weightsAll
  rcases List.mem_cons.1 h with rfl | h
  ·exact List.mem_append_left _ hz
  ·exact List.mem_append_right _ (uT h hz)
theorem tS {H:Type}{P:Program}{z:Nat}:∀ {ts:List TypeId}{l:List (DataW H)}{i:Nat}{t:TypeId}{d:DataW H},ts[i]?=some t→l[i]?=some d→z ∈ d.weights P t→z ∈ DataW.weightsEach P ts l
 | [],_,i,_,_,h,_,_=>by simp at h
 | _ :: _,[],i,_,_,_,h,_=>by simp at h
 | u :: ts,x :: l,0,t,d,ht,hd,hz=>by
  cases ht; cases hd
  unfold DataW.weightsEach
  exact List.mem_append_left _ hz
 | u :: ts,x :: l,i + 1,t,d,ht,hd,hz=>by
  unfold DataW.weightsEach
  exact List.mem_append_right _ (tS (i:=i) (by simpa using ht) (by simpa using hd) hz)
def shZ (P:Program):Nat→TypeId→List D→Prop
 | 0,_,_=>False
 | n + 1,t,ds=>
  match P.underlying t with
  | some .bool=>∃ b,ds=[.v (.bool b)]
  | some (.int k)=>∃ i,ds=[.v (.int k i)]∧k.min≤i∧i≤k.max
  | some .string=>∃ s:ByteArray,ds=[.v (.string s)]∧s.size≤reachBytes
  | some (.slice e)=>∃ rows,ds=[.sl rows]∧rows.length≤maxLen∧∀ r ∈ rows,shZ P n e r
  | some (.struct fs)=>PF (shZ P n) fs.toList ds
  | some (.array m e)=>shN (shZ P n e) m ds
  | _=>False
section
variable {P:Program}{n:Nat}{t:TypeId}{ds:List D}
theorem RZ (hu:P.underlying t=some .bool) (h:shZ P (n + 1) t ds):∃ b,ds=[.v (.bool b)]:=by simpa only [shZ,hu] using h
theorem T3 {k:IntKind} (hu:P.underlying t=some (.int k)) (h:shZ P (n + 1) t ds):∃ i,ds=[.v (.int k i)]∧k.min≤i∧i≤k.max:=by simpa only [shZ,hu] using h
theorem Tv (hu:P.underlying t=some .string) (h:shZ P (n + 1) t ds):∃ s:ByteArray,ds=[.v (.string s)]∧s.size≤reachBytes:=by simpa only [shZ,hu] using h
theorem HW {e:TypeId} (hu:P.underlying t=some (.slice e)) (h:shZ P (n + 1) t ds):∃ rows,ds=[.sl rows]∧rows.length≤maxLen∧∀ r ∈ rows,shZ P n e r:=by simpa only [shZ,hu] using h
theorem zZ {fs:Array Field} (hu:P.underlying t=some (.struct fs)) (h:shZ P (n + 1) t ds):PF (shZ P n) fs.toList ds:=by simpa only [shZ,hu] using h
end
section
variable {H:Type}{enc:TypeId × Value→H}{P:Program}{w:World}{base:Nat}{spare:Nat→Bool}{held:Bool}
theorem vV:∀ (n:Nat) (t:TypeId),oE P n t=true→∀ (fuel:Nat) (cs:List Value) (x:DataW H × List MemPlace),DataW.trod enc P w base spare held fuel t cs=some x→(∀ z ∈ x.1.weights P t,z≤reachBytes) →
  ∃ ds,shZ P n t ds∧t7 w ds cs
 | 0,_,h,_,_,_,_,_=>by cases h
 | n + 1,t,h,fuel,cs,x,hx,hz=>by
  unfold oE at h
  split at h
  ·rename_i ht
   obtain ⟨b,rfl,_⟩:=DataW.trod_bool ht hx
   exact ⟨[.v (.bool b)],by simp only [shZ,ht]; exact ⟨b,rfl⟩,.one (.v _ rfl)⟩
  ·rename_i k ht
   obtain ⟨i,rfl,_,hw⟩:=DataW.trod_int ht hx
   simp only [Lit.wf,Bool.and_eq_true,decide_eq_true_eq] at hw
   exact ⟨[.v (.int k i)],by simp only [shZ,ht]; exact ⟨i,rfl,hw.1,hw.2⟩,.one (.v _ rfl)⟩
  ·rename_i ht
   obtain ⟨s,rfl,rfl,_⟩:=DataW.trod_string ht hx
   have hs:s.size≤reachBytes:=by
    have:=hz s.data.toList.length (by simp [DataW.weights])
    simpa using this
   exact ⟨[.v (.string s)],by simp only [shZ,ht]; exact ⟨s,rfl,hs⟩,.one (.v _ rfl)⟩
  ·rename_i e ht
   simp only [Bool.and_eq_true,decide_eq_true_eq] at h
   obtain ⟨h0,h1⟩:=h
   rcases DataW.trod_slice ht hx with ⟨rfl,_⟩ | ⟨a,len,cap,elems,rest,m,_,rfl,rfl,hb,hl,hm,hlen,hel,_,_⟩
   ·exact ⟨[.sl []],by simp only [shZ,ht]; exact ⟨[],rfl,Nat.zero_le _,by simp⟩,.one (.nil _ _ (Nat.zero_le _))⟩
   ·have hel':∀ y ∈ elems,∀ z ∈ y.1.weights P e,z≤reachBytes:=fun y hy z hz'=>hz z (by
     simp only [DataW.weights,ht]
     exact List.mem_cons_of_mem _ (List.mem_append_left _ (uT (List.mem_map.2 ⟨y,hy,rfl⟩) hz')))
    have each:∀ i,∃ r cs',i < len→(w.cells? base (a.add (i * P.cellsOf e)) (P.cellsOf e)=some cs'∧shZ P n e r∧t7 w r cs'):=by
     intro i
     by_cases hi:i < len
     ·have h2:=hel i hi
      rw [List.getElem?_eq_getElem (by omega),Option.bind_eq_some_iff] at h2
      obtain ⟨cs',h3,h4⟩:=h2
      obtain ⟨r,h5,h6⟩:=vV n e h1 m cs' _ h4 (hel' _ (List.getElem_mem _))
      exact ⟨r,cs',fun _=>⟨h3,h5,h6⟩⟩
     ·exact ⟨[],[],fun h=>absurd h hi⟩
    let rw_:Nat→List D:=fun i=>Classical.choose (each i)
    let cw:Nat→List Value:=fun i=>Classical.choose (Classical.choose_spec (each i))
    have ew:∀ i,i < len→(w.cells? base (a.add (i * P.cellsOf e)) (P.cellsOf e)=some (cw i)∧shZ P n e (rw_ i)∧t7 w (rw_ i) (cw i)):=fun i=>Classical.choose_spec (Classical.choose_spec (each i))
    let rows:=(List.range len).map rw_
    have hrl:rows.length=len:=by simp [rows]
    have hr:∀ (i:Nat) (r:List D),rows[i]?=some r→i < len∧r=rw_ i:=by
     intro i r hr
     have hi:i < len:=by have:=(List.getElem?_eq_some_iff.1 hr).1; rwa [hrl] at this
     refine ⟨hi,?_⟩
     simp only [rows,List.getElem?_map,List.getElem?_range hi,Option.map_some,Option.some.injEq] at hr
     exact hr.symm
    refine ⟨[.sl rows],?_,.one ?_⟩
    ·simp only [shZ,ht]
     refine ⟨rows,rfl,by omega,fun r hrm=>?_⟩
     obtain ⟨i,hi,rfl⟩:=List.mem_iff_getElem.1 hrm
     obtain ⟨h2,h3⟩:=hr i _ (List.getElem?_eq_getElem hi)
     rw [h3]; exact (ew i h2).2.1
    ·rcases Nat.eq_zero_or_pos len with h00 | hpos
     ·subst h00
      have:rows=[]:=List.length_eq_zero_iff.1 hrl
      rw [this]
      exact .nil _ _ hm
     ·have hspot:a=⟨a.block,a.off,none⟩:=by
       obtain ⟨h2,h3,h4⟩:=ew 0 hpos
       obtain ⟨h5,h6⟩:=AO h2
       have h7:=h6 0 h0
       rw [List.getElem?_eq_getElem (by omega)] at h7
       simp only [Nat.zero_mul,Addr.add,if_true] at h7
       obtain ⟨b,o,sp⟩:=a
       unfold World.cell? at h7
       split at h7
       ·cases sp
        ·rfl
        ·simp at h7
       ·cases h7
      rw [hspot,← hrl]
      have hcell:∀ i j r d,rows[i]?=some r→r[j]?=some d→∃ c,w.cell? ⟨a.block,a.off + i * P.cellsOf e + j,none⟩=some c∧eX w (lT w) d c:=by
       intro i j r d hri hdj
       obtain ⟨hi,rfl⟩:=hr i r hri
       obtain ⟨h2,_,h3,h4⟩:=ew i hi
       obtain ⟨h5,h6⟩:=AO h2
       have hj:j < (rw_ i).length:=(List.getElem?_eq_some_iff.1 hdj).1
       have hj2:j < (cw i).length:=by omega
       refine ⟨(cw i)[j],?_,h4 j _ d (List.getElem?_eq_getElem hj2) hdj⟩
       have:=h6 j (by omega)
       rw [List.getElem?_eq_getElem hj2] at this
       rw [← this]
       congr 1
       rw [hspot]
       rw [Addr.add_mk,Addr.add_mk]
      refine .sl (P.cellsOf e) rows a.block a.off cap (fun i j=>(w.cell? ⟨a.block,a.off + i * P.cellsOf e + j,none⟩).getD undef) (by omega) hm ?_ ?_ ?_ ?_
      ·intro i r hri
       obtain ⟨hi,rfl⟩:=hr i r hri
       obtain ⟨h2,_,h3,h4⟩:=ew i hi
       rw [h3]; exact (AO h2).1
      ·intro i j r d hri hdj
       obtain ⟨c,hc,_⟩:=hcell i j r d hri hdj
       simp [hc]
      ·intro i j r d hri hdj
       obtain ⟨c,hc,_⟩:=hcell i j r d hri hdj
       exact OM (a:=⟨_,_,none⟩) hc
      ·intro i j r d hri hdj
       obtain ⟨c,hc,hd⟩:=hcell i j r d hri hdj
       simpa [hc] using hd
  ·rename_i fs ht
   simp only [Bool.and_eq_true,decide_eq_true_eq,List.all_eq_true] at h
   obtain ⟨hpk,hall⟩:=h
   obtain ⟨xs,m,_,rfl,hlen,hxl,hel⟩:=DataW.trod_struct ht hx
   have key:∀ (l:List Field) (k p:Nat),(∀ f ∈ l,oE P n f.type=true)→lG P p l=some cs.length→(∀ (i:Nat) (f:Field),l[i]?=some f→DataW.trod enc P w base spare held m f.type ((cs.drop f.offset).take (P.cellsOf f.type))=xs[k + i]?) →
     (∀ (i:Nat) (f:Field) (y:DataW H × List MemPlace),l[i]?=some f→xs[k + i]?=some y→∀ z ∈ y.1.weights P f.type,z≤reachBytes)→k + l.length=xs.length→p≤cs.length→∃ ds,PF (shZ P n) l ds∧t7 w ds (cs.drop p):=by
    intro l
    induction l with
    | nil=>
     intro k p _ hp _ _ _ _
     simp only [lG,Option.some.injEq] at hp
     exact ⟨[],rfl,by rw [hp,List.drop_length]; exact ⟨rfl,fun i c d h=>by simp at h⟩⟩
    | cons f l ih=>
     intro k p hpl hp hx hzz hk hle
     simp only [lG] at hp
     split at hp
     ·rename_i hoff
      have h1:=hx 0 f rfl
      have hk':k < xs.length:=by simp at hk; omega
      rw [Nat.add_zero,List.getElem?_eq_getElem hk'] at h1
      obtain ⟨a,ha1,ha2⟩:=vV n f.type (hpl f List.mem_cons_self) m _ _ h1 (hzz 0 f _ rfl (by rw [Nat.add_zero,List.getElem?_eq_getElem hk']))
      have hge:∀ (l:List Field) (p q:Nat),lG P p l=some q→p≤q:=by
       intro l
       induction l with
       | nil=>intro p q h; simp only [lG,Option.some.injEq] at h; omega
       | cons g l ih=>
        intro p q h
        simp only [lG] at h
        split at h
        ·have:=ih _ _ h; omega
        ·cases h
      have hle2:=hge _ _ _ hp
      obtain ⟨b,hb1,hb2⟩:=ih (k + 1) (p + P.cellsOf f.type) (fun g hg=>hpl g (List.mem_cons_of_mem _ hg)) hp (fun i g hg=>by rw [hx (i + 1) g (by simpa using hg)]; congr 1; omega) (fun i g y hg hy=>hzz (i + 1) g y (by simpa using hg) (by rw [← hy]; congr 1; omega)) (by simp at hk; omega) hle2
      refine ⟨a ++ b,⟨a,b,rfl,ha1,hb1⟩,?_⟩
      have e:cs.drop p=(cs.drop f.offset).take (P.cellsOf f.type) ++ cs.drop (p + P.cellsOf f.type):=by
       rw [hoff,← List.drop_drop,List.take_append_drop]
      rw [e]
      exact ha2.append hb2
     ·cases hp
   obtain ⟨ds,h1,h2⟩:=key fs.toList 0 0 hall (by rw [hpk,hlen]) (fun i f hf=>by rw [Nat.zero_add]; exact hel i f (by simpa using hf)) (fun i f y hf hy z hz'=>hz z (by
    simp only [DataW.weights,ht]
    rw [Nat.zero_add] at hy
    exact tS (i:=i) (t:=f.type) (d:=y.1) (by rw [List.getElem?_map,hf]; rfl) (by rw [List.getElem?_map,hy]; rfl) hz')) (by simp [hxl]) (Nat.zero_le _)
   exact ⟨ds,by simp only [shZ,ht]; exact h1,by simpa using h2⟩
  ·rename_i mm e ht
   simp only [Bool.and_eq_true,decide_eq_true_eq] at h
   obtain ⟨hsz,hpl⟩:=h
   obtain ⟨xs,m,_,rfl,hlen,hxl,hel⟩:=DataW.trod_array ht hx
   have hel':∀ y ∈ xs,∀ z ∈ y.1.weights P e,z≤reachBytes:=fun y hy z hz'=>hz z (by
    simp only [DataW.weights,ht]
    exact uT (List.mem_map.2 ⟨y,hy,rfl⟩) hz')
   have key:∀ (q k:Nat),k + q=mm→∃ ds,shN (shZ P n e) q ds∧t7 w ds (cs.drop (k * P.cellsOf e)):=by
    intro q
    induction q with
    | zero=>
     intro k hk
     refine ⟨[],rfl,?_⟩
     rw [List.drop_of_length_le (by rw [hlen,hsz,← hk]; simp)]
     exact ⟨rfl,fun i c d h=>by simp at h⟩
    | succ q ih=>
     intro k hk
     have h1:=hel k (by omega)
     rw [List.getElem?_eq_getElem (by omega)] at h1
     obtain ⟨a,ha1,ha2⟩:=vV n e hpl m _ _ h1 (hel' _ (List.getElem_mem _))
     obtain ⟨b,hb1,hb2⟩:=ih (k + 1) (by omega)
     refine ⟨a ++ b,⟨a,b,rfl,ha1,hb1⟩,?_⟩
     have e':cs.drop (k * P.cellsOf e)=(cs.drop (k * P.cellsOf e)).take (P.cellsOf e) ++ cs.drop ((k + 1) * P.cellsOf e):=by
      rw [Nat.succ_mul,← List.drop_drop,List.take_append_drop]
     rw [e']
     exact ha2.append hb2
   obtain ⟨ds,h1,h2⟩:=key mm 0 (by omega)
   exact ⟨ds,by simp only [shZ,ht]; exact h1,by simpa using h2⟩
  ·cases h
def sG (P:Program) (n:Nat):List TypeId→List AV→Prop
 | [],xs=>xs=[]
 | t :: ts,xs=>∃ ds xs',shZ P n t ds∧xs=AJ P t ds :: xs'∧sG P n ts xs'
theorem PT {r:Reach}{b0 n:Nat}{t:TypeId}{v:Value}{d:DataW H}{ps:List MemPlace} (hp:oE P n t=true) (hval:Value.okWide P w r b0 t v) (hd:DataW.Trod enc P w base spare held t v d ps) (hz:∀ z ∈ d.weights P t,z≤reachBytes) :
  ∃ ds,shZ P n t ds∧aR (mL w) w (AJ P t ds) v:=by
 obtain ⟨fuel,hf⟩:=hd
 obtain ⟨ds,h1,h2,h3⟩:=vV n t hp fuel _ _ hf hz
 refine ⟨ds,h1,?_⟩
 have hagg:∀ cs:Array Value,v=.agg cs→aR (mL w) w (.agg (ds.map .ofD)) v:=by
  rintro cs rfl
  simp only [Value.cells] at h2 h3
  have:=aR.agg (G:=mL w) (w:=w) (ds.map .ofD) cs.toList (by simpa using h2.symm) ?_ ?_
  ·simpa using this
  ·intro i u hu
   have hl:i < ds.length:=by rw [h2]; exact (List.getElem?_eq_some_iff.1 hu).1
   exact (h3 i u ds[i] hu (List.getElem?_eq_getElem hl)).one
  ·intro i c u hc hu
   rw [List.getElem?_map,Option.map_eq_some_iff] at hc
   obtain ⟨d',hd',rfl⟩:=hc
   exact Rn (h3 i u d' hu hd')
 have hone:v.cells.toList=[v]→aR (mL w) w (.ofD (ds.getD 0 default)) v:=by
  intro e
  rw [e] at h2 h3
  match ds,h2,h3 with
  | [d'],_,h3=>exact Rn (h3 0 v d' rfl rfl)
 unfold oE at hp
 cases n with
 | zero=>cases hp
 | succ n=>
  simp only at hp
  unfold AJ
  split at hp <;> rename_i ht <;> simp only [ht]
  ·obtain ⟨b,rfl⟩:=okWide_bool ht hval; exact hone rfl
  ·obtain ⟨b,rfl⟩:=okWide_int ht hval; exact hone rfl
  ·obtain ⟨b,rfl⟩:=okWide_string ht hval; exact hone rfl
  ·obtain ⟨a,l,c,rfl⟩:=okWide_slice ht hval; exact hone rfl
  ·unfold Value.okWide at hval
   rw [ht] at hval
   obtain ⟨cs,e,_⟩:=hval
   exact hagg cs e
  ·unfold Value.okWide at hval
   rw [ht] at hval
   obtain ⟨cs,e,_⟩:=hval
   exact hagg cs e
  ·cases hp
theorem FF {b0 n:Nat}{r:Reach}:∀ {ts:List TypeId}{vs:List Value}{ds:List (DataW H)}{ps:List MemPlace},(∀ t ∈ ts,oE P n t=true) →
  (∀ (j:Nat) t v,ts[j]?=some t→vs[j]?=some v→Value.okWide P w r b0 t v)→DataW.TrodAll enc P w base spare held ts vs ds ps→(∀ (i:Nat) t d,ts[i]?=some t→ds[i]?=some d→∀ z ∈ d.weights P t,z≤reachBytes)→∃ xs,sG P n ts xs∧cQ (mL w) w xs vs
 | [],vs,ds,ps,_,_,h,_=>by
  cases vs <;> cases ds <;> simp [DataW.TrodAll] at h
  exact ⟨[],rfl,rfl,fun i x v hx=>by simp at hx⟩
 | t :: ts,vs,ds,ps,hp,hv,h,hz=>by
  obtain ⟨v,vs',d,ds',p,q,rfl,rfl,rfl,h1,h2⟩:=ChangeShapes.trodAll_cons h
  obtain ⟨cs,hc,hx⟩:=PT (hp t List.mem_cons_self) (hv 0 t v rfl rfl) h1 (hz 0 t d rfl rfl)
  obtain ⟨xs,hxs,hl⟩:=FF (fun t' ht'=>hp t' (List.mem_cons_of_mem _ ht')) (fun j t' v' ht' hv'=>hv (j + 1) t' v' (by simpa using ht') (by simpa using hv')) h2 (fun i t' d' ht' hd'=>hz (i + 1) t' d' (by simpa using ht') (by simpa using hd'))
  refine ⟨AJ P t cs :: xs,⟨cs,xs,hc,rfl,hxs⟩,by simp [hl.1],fun i x u hx' hu=>?_⟩
  cases i with
  | zero=>cases hx'; cases hu; exact hx
  | succ i=>exact hl.2 i x u (by simpa using hx') (by simpa using hu)
end
theorem tG {H:Type}{enc:TypeId × Value→H}{P:Program}{f n:Nat}{fn:Func}{s:ChangeSpec}{bt:TypeId} (hvars:s.vars=[]) (hts:fn.resultTypes=#[bt]) (hbt:P.underlying bt=some .bool)
  (hspec:∀ ds:List (DataW H),ds.length=fn.params.toList.length→(s.fn H (ds ++ [])).results=[.lit (.bool true)]∧(s.fn H (ds ++ [])).args=ds∧(s.fn H (ds ++ [])).vars=[])
  (hp:fn.params.toList.all (fun t=>oE P n t && P.readableRec t && decide (t < P.types.size))=true) (hl:laidOutB P=true)
  (h:∀ xs,sG P n fn.params.toList xs→Fun P f xs (.v (.bool true)) [])
  {W:World}{base:Nat}{args:Array Value}{ds gs:List (DataW H)}{before:List MemPlace} (hgl:uU (lT W) W)
  (hval:∀ (j:Nat) t v,fn.params[j]?=some t→args[j]?=some v→Value.okWide P W .any base t v)
  (hW:DataW.Whole enc P fn.params.toList s.vars false W args.toList ds gs before) (hZ:(DataW.weightsEach P (fn.params.toList ++ s.plain.varTypes P) (ds ++ gs)).all (·≤reachBytes)=true) :
  Calls P f args W fun e W'=>∃ v,e=.returned v∧s.post enc P fn false true false false W args v W':=by
 have hlt:=hW.lt
 have hW':=hW
 obtain ⟨p,q,hA,hV,rfl,hfz,hnd⟩:=hW
 rw [hvars] at hV
 obtain ⟨rfl,rfl⟩:=trodVars_none hV
 simp only [List.all_eq_true,Bool.and_eq_true,decide_eq_true_eq] at hp
 obtain ⟨xs,hxs,hc⟩:=FF (n:=n) (fun t ht=>(hp t ht).1.1) (fun j t v ht hv=>hval j t v (by simpa using ht) (by simpa using hv)) hA (fun i t d ht hd z hz=>by
  have:=List.all_eq_true.1 hZ z (tS (i:=i) (t:=t) (d:=d) (by rw [List.getElem?_append_left (List.getElem?_eq_some_iff.1 ht).1]; exact ht) (by rw [List.getElem?_append_left (List.getElem?_eq_some_iff.1 hd).1]; exact hd) hz)
  simpa using this)
 have hcall:=h xs hxs (mL W) W args.toList (Vd W hgl) hc
 simp only [Array.toArray_toList] at hcall
 refine hcall.mono fun e W' ⟨ae,objs',G',⟨hae,_⟩,_,hstep,hend⟩=>?_
 subst hae
 cases e with
 | panicked _=>exact hend.elim
 | outgrown=>exact hend.elim
 | returned v=>
  have hv:v=.bool true:=fP hend
  subst hv
  have hb:=hstep.below rfl
  have hlen:ds.length=fn.params.toList.length:=by
   have key:∀ {ts:List TypeId}{vs:List Value}{ds:List (DataW H)}{ps:List MemPlace},DataW.TrodAll enc P W 0 (fun _=>true) true ts vs ds ps→ds.length=ts.length:=by
    intro ts
    induction ts with
    | nil=>intro vs ds ps h; cases vs <;> cases ds <;> simp [DataW.TrodAll] at h ⊢
    | cons t ts ih=>
     intro vs ds ps h
     obtain ⟨v,vs',d,ds',p,q,rfl,rfl,rfl,h1,h2⟩:=ChangeShapes.trodAll_cons h
     simp [ih h2]
   exact key hA
  obtain ⟨s1,s2,s3⟩:=hspec ds hlen
  refine ⟨_,rfl,ds,[],p ++ [],[],p,[],hW',?_,?_,?_,?_,fun h=>by cases h⟩
  ·rw [s1,hts]
   exact ⟨[],[],⟨1,by simp [DataW.trod,hbt,Value.cells]⟩,rfl,rfl⟩
  ·rw [s2]
   exact Dz hl hb (fun t ht=>⟨(hp t ht).1.2,(hp t ht).2⟩) hA (fun x hx=>hlt x (by simpa using hx))
  ·rw [s3,hvars]; rfl
  ·exact hb.frame _
end Go.Proofs.YthgenmkengbmmaaGreatDoor.AM
