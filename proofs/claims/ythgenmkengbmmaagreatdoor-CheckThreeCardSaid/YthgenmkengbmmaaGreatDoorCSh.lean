/- Sh -/
import Derived.Test.YthgenmkengbmmaaGreatDoorCOk
import Derived.Test.YthgenmkengbmmaaGreatDoorCA4
import Derived.WalkKit
import Derived.JoinedOf
import Derived.Test.YthgenmkengbmmaaGreatDoorRows
import Derived.OpenShut
import Derived.FnData
import Derived.ChangeArms
set_option linter.all false
namespace Go.Proofs.YthgenmkengbmmaaGreatDoor.AM
open Go Go.Proofs
set_option maxRecDepth 20000
theorem DV:ownKnob Tryz.prog.godebug=none:=by kernel_rfl
theorem B7:laidOutB Tryz.prog=true:=by kernel_rfl
theorem BH {α:Type}{enc:α→List D}{Q:List D→Prop}{ok:α→Prop} (hQ:∀ r,Q r→∃ a,r=enc a∧ok a):∀ {rows:List (List D)},(∀ r ∈ rows,Q r)→∃ l:List α,rows=l.map enc∧∀ a ∈ l,ok a
 | [],_=>⟨[],rfl,fun _ h=>by cases h⟩
 | r :: rows,h=>by
  obtain ⟨a,rfl,ha⟩:=hQ r (h r List.mem_cons_self)
  obtain ⟨l,rfl,hl⟩:=BH hQ (rows:=rows) (fun r hr=>h r (List.mem_cons_of_mem _ hr))
  exact ⟨a :: l,rfl,fun b hb=>by rcases List.mem_cons.1 hb with rfl | hb; exact ha; exact hl b hb⟩
theorem Cm {n:Nat}{r:List D} (h:shZ Tryz.prog (n + 1) 9 r):∃ x:Str,r=cS x∧okS x:=by
 obtain ⟨s,rfl,hs⟩:=Tv (b5 (aP (t:=9) rfl)).1 h
 exact ⟨s.data.toList,rfl,hs⟩
theorem Jx {n:Nat}{r:List D} (h:shZ Tryz.prog (n + 1) 3 r):∃ x:Int,r=cI x∧(okI .i64) x:=by
 obtain ⟨i,rfl,h1,h2⟩:=T3 (b5 (aP (t:=3) rfl)).1 h
 exact ⟨i,rfl,h1,h2⟩
theorem YK {n:Nat}{r:List D} (h:shZ Tryz.prog (n + 1) 4 r):∃ x:Bool,r=cB x∧okB x:=by
 obtain ⟨b,rfl⟩:=RZ (b5 (aP (t:=4) rfl)).1 h
 exact ⟨b,rfl,trivial⟩
theorem Wo {n:Nat}{r:List D} (h:shZ Tryz.prog (n + 2) 117 r):∃ x:bS,r=aH x∧GC x:=by
 obtain ⟨a0,b0,rfl,h0,a1,b1,rfl,h1,a2,b2,rfl,h2,rfl⟩:=zZ (b5 (aP (t:=117) rfl)).1 h
 obtain ⟨x0,rfl,k0⟩:=Cm h0
 obtain ⟨x1,rfl,k1⟩:=Cm h1
 obtain ⟨x2,rfl,k2⟩:=YK h2
 exact ⟨⟨x0,x1,x2⟩,rfl,k0,k1,k2⟩
theorem Xw {n:Nat}{r:List D} (h:shZ Tryz.prog (n + 3) 35 r):∃ x:(List bS),r=(cL aH) x∧(okL GC) x:=by
 obtain ⟨rows,rfl,hl,hr⟩:=HW (b5 (aP (t:=35) rfl)).1 h
 obtain ⟨l,rfl,hk⟩:=BH (fun r hr=>Wo hr) hr
 exact ⟨l,rfl,by simpa using hl,hk⟩
theorem Yk {n:Nat}{r:List D} (h:shZ Tryz.prog (n + 4) 37 r):∃ x:cT,r=rI x∧Rx x:=by
 obtain ⟨a0,b0,rfl,h0,a1,b1,rfl,h1,rfl⟩:=zZ (b5 (aP (t:=37) rfl)).1 h
 obtain ⟨x0,rfl,k0⟩:=Cm h0
 obtain ⟨x1,rfl,k1⟩:=Xw h1
 exact ⟨⟨x0,x1⟩,rfl,k0,k1⟩
theorem XB {n:Nat}{r:List D} (h:shZ Tryz.prog (n + 5) 39 r):∃ x:cG,r=wC x∧Oo x:=by
 obtain ⟨a0,b0,rfl,h0,a1,b1,rfl,h1,a2,b2,rfl,h2,rfl⟩:=zZ (b5 (aP (t:=39) rfl)).1 h
 obtain ⟨x0,rfl,k0⟩:=Yk h0
 obtain ⟨x1,rfl,k1⟩:=Jx h1
 obtain ⟨x2,rfl,k2⟩:=Jx h2
 exact ⟨⟨x0,x1,x2⟩,rfl,k0,k1,k2⟩
theorem WP {n:Nat}{r:List D} (h:shZ Tryz.prog (n + 2) 87 r):∃ x:aY,r=aK x∧I9 x:=by
 obtain ⟨a0,b0,rfl,h0,a1,b1,rfl,h1,rfl⟩:=zZ (b5 (aP (t:=87) rfl)).1 h
 obtain ⟨x0,rfl,k0⟩:=Cm h0
 obtain ⟨x1,rfl,k1⟩:=Cm h1
 exact ⟨⟨x0,x1⟩,rfl,k0,k1⟩
theorem WJ {n:Nat}{r:List D} (h:shZ Tryz.prog (n + 3) 40 r):∃ x:(List aY),r=(cL aK) x∧(okL I9) x:=by
 obtain ⟨rows,rfl,hl,hr⟩:=HW (b5 (aP (t:=40) rfl)).1 h
 obtain ⟨l,rfl,hk⟩:=BH (fun r hr=>WP hr) hr
 exact ⟨l,rfl,by simpa using hl,hk⟩
theorem XT {n:Nat}{r:List D} (h:shZ Tryz.prog (n + 6) 42 r):∃ x:a6,r=bL x∧ES x:=by
 obtain ⟨a0,b0,rfl,h0,a1,b1,rfl,h1,a2,b2,rfl,h2,a3,b3,rfl,h3,a4,b4,rfl,h4,rfl⟩:=zZ (b5 (aP (t:=42) rfl)).1 h
 obtain ⟨x0,rfl,k0⟩:=Cm h0
 obtain ⟨x1,rfl,k1⟩:=XB h1
 obtain ⟨x2,rfl,k2⟩:=Jx h2
 obtain ⟨x3,rfl,k3⟩:=Jx h3
 obtain ⟨x4,rfl,k4⟩:=WJ h4
 exact ⟨⟨x0,x1,x2,x3,x4⟩,rfl,k0,k1,k2,k3,k4⟩
theorem Xb {n:Nat}{r:List D} (h:shZ Tryz.prog (n + 7) 32 r):∃ x:(List a6),r=(cL bL) x∧(okL ES) x:=by
 obtain ⟨rows,rfl,hl,hr⟩:=HW (b5 (aP (t:=32) rfl)).1 h
 obtain ⟨l,rfl,hk⟩:=BH (fun r hr=>XT hr) hr
 exact ⟨l,rfl,by simpa using hl,hk⟩
theorem X7 {n:Nat}{r:List D} (h:shZ Tryz.prog (n + 8) 34 r):∃ x:aI,r=aD x∧jH x:=by
 obtain ⟨a0,b0,rfl,h0,a1,b1,rfl,h1,a2,b2,rfl,h2,a3,b3,rfl,h3,rfl⟩:=zZ (b5 (aP (t:=34) rfl)).1 h
 obtain ⟨x0,rfl,k0⟩:=Cm h0
 obtain ⟨x1,rfl,k1⟩:=Jx h1
 obtain ⟨x2,rfl,k2⟩:=Jx h2
 obtain ⟨x3,rfl,k3⟩:=Xb h3
 exact ⟨⟨x0,x1,x2,x3⟩,rfl,k0,k1,k2,k3⟩
theorem WN {n:Nat}{r:List D} (h:shZ Tryz.prog (n + 9) 22 r):∃ x:(List aI),r=(cL aD) x∧(okL jH) x:=by
 obtain ⟨rows,rfl,hl,hr⟩:=HW (b5 (aP (t:=22) rfl)).1 h
 obtain ⟨l,rfl,hk⟩:=BH (fun r hr=>X7 hr) hr
 exact ⟨l,rfl,by simpa using hl,hk⟩
theorem W9 {n:Nat}{r:List D} (h:shZ Tryz.prog (n + 2) 47 r):∃ x:bE,r=a7 x∧zW x:=by
 obtain ⟨a0,b0,rfl,h0,a1,b1,rfl,h1,rfl⟩:=zZ (b5 (aP (t:=47) rfl)).1 h
 obtain ⟨x0,rfl,k0⟩:=Cm h0
 obtain ⟨x1,rfl,k1⟩:=Cm h1
 exact ⟨⟨x0,x1⟩,rfl,k0,k1⟩
theorem pS {n:Nat}{ds:List D} (h:shZ Tryz.prog (n + 9) 22 ds):∃ x:(List aI),AJ Tryz.prog 22 ds=(sl aD) x∧(okL jH) x:=by
 obtain ⟨x,rfl,hk⟩:=WN h
 refine ⟨x,?_,hk⟩
 unfold AJ
 rw [(b5 (aP (t:=22) rfl)).1]
 rfl
theorem E8 {n:Nat}{ds:List D} (h:shZ Tryz.prog (n + 2) 47 ds):∃ x:bE,AJ Tryz.prog 47 ds=(ag a7) x∧zW x:=by
 obtain ⟨x,rfl,hk⟩:=W9 h
 refine ⟨x,?_,hk⟩
 unfold AJ
 rw [(b5 (aP (t:=47) rfl)).1]
 rfl
end Go.Proofs.YthgenmkengbmmaaGreatDoor.AM
namespace Go.Proofs.YthgenmkengbmmaaGreatDoor.AM
open Go Go.Proofs
theorem Mn {P:Program}{w:World}{n:String}{d:DataW Unit}:∀ {l:List (String × DataW Unit)}{ps:List MemPlace},DataW.LaidVars P w l ps→(n,d) ∈ l →
  ∃ g t cs fuel p,P.globalNamed n=some g∧(P.globals[g]?).map (·.type)=some t∧w.var? P n=some cs∧DataW.trod (fun _=>()) P w 0 (fun _=>true) false fuel t cs.toList=some (d,p)
 | [],_,_,h=>by cases h
 | (n',d') :: r,ps,h,hm=>by
  obtain ⟨g,t,cs,fuel,p,q,h1,h2,h3,h4,h5,_⟩:=h
  rcases List.mem_cons.1 hm with e | hm
  ·cases e; exact ⟨g,t,cs,fuel,p,h1,h2,h3,h4⟩
  ·exact Mn h5 hm
mutual
def zN {H:Type}:DataW H→List Value
 | .lit (.string b)=>[.string ⟨⟨b⟩⟩]
 | .lit (.int k i)=>[.int k i]
 | .lit (.bool b)=>[.bool b]
 | .agg ps=>m9 ps
 | _=>[]
def m9 {H:Type}:List (DataW H)→List Value
 | []=>[]
 | d :: r=>zN d ++ m9 r
end
def B3 (P:Program):Nat→TypeId→Bool
 | 0,_=>false
 | n + 1,t=>
  match P.underlying t with
  | some .bool=>true
  | some (.int _)=>true
  | some .string=>true
  | some (.struct fs)=>decide (lG P 0 fs.toList=some (P.cellsOf t)) && fs.toList.all fun f=>B3 P n f.type
  | some (.array m e)=>decide (P.cellsOf t=m * P.cellsOf e) && B3 P n e
  | _=>false
section
variable {H:Type}{enc:TypeId × Value→H}{P:Program}{w:World}{base:Nat}{spare:Nat→Bool}{held:Bool}
theorem Gs:∀ (n:Nat) (t:TypeId),B3 P n t=true→∀ (fuel:Nat) (cs:List Value) (x:DataW H × List MemPlace),DataW.trod enc P w base spare held fuel t cs=some x→cs=zN x.1
 | 0,_,h,_,_,_,_=>by cases h
 | n + 1,t,h,fuel,cs,x,hx=>by
  unfold B3 at h
  split at h
  ·rename_i ht
   obtain ⟨b,rfl,rfl⟩:=DataW.trod_bool ht hx; rfl
  ·rename_i k ht
   obtain ⟨i,rfl,rfl,_⟩:=DataW.trod_int ht hx; rfl
  ·rename_i ht
   obtain ⟨s,rfl,rfl,_⟩:=DataW.trod_string ht hx; rfl
  ·rename_i fs ht
   simp only [Bool.and_eq_true,decide_eq_true_eq,List.all_eq_true] at h
   obtain ⟨hpk,hall⟩:=h
   obtain ⟨xs,m,_,rfl,hlen,hxl,hel⟩:=DataW.trod_struct ht hx
   have key:∀ (l:List Field) (k p:Nat),(∀ f ∈ l,B3 P n f.type=true)→lG P p l=some cs.length→(∀ (i:Nat) (f:Field),l[i]?=some f→DataW.trod enc P w base spare held m f.type ((cs.drop f.offset).take (P.cellsOf f.type))=xs[k + i]?) →
     k + l.length=xs.length→p≤cs.length→cs.drop p=m9 ((xs.drop k).map (·.1)):=by
    intro l
    induction l with
    | nil=>
     intro k p _ hp _ hk _
     simp only [lG,Option.some.injEq] at hp
     rw [hp,List.drop_length,List.drop_eq_nil_of_le (by simp at hk; omega)]
     simp [m9]
    | cons f l ih=>
     intro k p hpl hp hx hk hle
     simp only [lG] at hp
     split at hp
     ·rename_i hoff
      have h1:=hx 0 f rfl
      have hk':k < xs.length:=by simp at hk; omega
      rw [Nat.add_zero,List.getElem?_eq_getElem hk'] at h1
      have ha:=Gs n f.type (hpl f List.mem_cons_self) m _ _ h1
      have hge:∀ (l:List Field) (p q:Nat),lG P p l=some q→p≤q:=by
       intro l
       induction l with
       | nil=>intro p q h; simp only [lG,Option.some.injEq] at h; omega
       | cons g l ih=>
        intro p q h
        simp only [lG] at h
        split at h
        ·have:=ih _ _ h; omega
        ·cases h
      have hle2:=hge _ _ _ hp
      have hb:=ih (k + 1) (p + P.cellsOf f.type) (fun g hg=>hpl g (List.mem_cons_of_mem _ hg)) hp (fun i g hg=>by rw [hx (i + 1) g (by simpa using hg)]; congr 1; omega) (by simp at hk; omega) hle2
      rw [List.drop_eq_getElem_cons hk',List.map_cons]
      simp only [m9]
      rw [← ha,← hb,hoff,← List.drop_drop,List.take_append_drop]
     ·cases hp
   have:=key fs.toList 0 0 hall (by rw [hpk,hlen]) (fun i f hf=>by rw [Nat.zero_add]; exact hel i f (by simpa using hf)) (by simp [hxl]) (Nat.zero_le _)
   simpa [zN] using this
  ·rename_i mm e ht
   simp only [Bool.and_eq_true,decide_eq_true_eq] at h
   obtain ⟨hsz,hpl⟩:=h
   obtain ⟨xs,m,_,rfl,hlen,hxl,hel⟩:=DataW.trod_array ht hx
   have key:∀ (q k:Nat),k + q=mm→cs.drop (k * P.cellsOf e)=m9 ((xs.drop k).map (·.1)):=by
    intro q
    induction q with
    | zero=>
     intro k hk
     rw [List.drop_of_length_le (by rw [hlen,hsz,← hk]; simp),List.drop_eq_nil_of_le (by omega)]
     simp [m9]
    | succ q ih=>
     intro k hk
     have h1:=hel k (by omega)
     have hk':k < xs.length:=by omega
     rw [List.getElem?_eq_getElem hk'] at h1
     have ha:=Gs n e hpl m _ _ h1
     have hb:=ih (k + 1) (by omega)
     rw [List.drop_eq_getElem_cons hk',List.map_cons]
     simp only [m9]
     rw [← ha,← hb,Nat.succ_mul,← List.drop_drop,List.take_append_drop]
   have:=key mm 0 (by omega)
   simpa [zN] using this
  ·cases h
end
def Sd:D→Value
 | .v x=>x
 | _=>undef
def WE:D→Bool
 | .v x=>x.oneCell'
 | _=>false
theorem Ms {sz:Nat}:∀ {rows:List (List D)}{i j:Nat}{r:List D},(∀ r ∈ rows,r.length=sz)→rows[i]?=some r→j < r.length→rows.flatten[i * sz + j]?=r[j]?
 | [],i,j,r,_,h,_=>by simp at h
 | q :: rows,0,j,r,_,h,hj=>by
  cases h
  rw [List.flatten_cons,Nat.zero_mul,Nat.zero_add,List.getElem?_append_left hj]
 | q :: rows,i + 1,j,r,hl,h,hj=>by
  have hq:=hl q List.mem_cons_self
  have:=Ms (rows:=rows) (fun r hr=>hl r (List.mem_cons_of_mem _ hr)) (by simpa using h) hj
  rw [List.flatten_cons,Nat.succ_mul,List.getElem?_append_right (by omega),← this]
  congr 1; omega
theorem J8 {sz:Nat}:∀ {rows:List (List D)},(∀ r ∈ rows,r.length=sz)→rows.flatten.length=rows.length * sz
 | [],_=>by simp
 | q :: rows,hl=>by
  rw [List.flatten_cons,List.length_append,J8 (rows:=rows) (fun r hr=>hl r (List.mem_cons_of_mem _ hr)),hl q List.mem_cons_self,List.length_cons,Nat.succ_mul]; omega
theorem R2 {W:World}{g sz:Nat}{rows:List (List D)}{cs:List Value} (hcell:∀ i,W.cell? ⟨g,i,none⟩=cs[i]?) (hcs:cs=rows.flatten.map Sd) (hl:∀ r ∈ rows,r.length=sz) (h1:(rows.flatten.all WE)=true) (h0:0 < rows.flatten.length) :
  hU W (lT W) (lT W) g 0 sz rows∧lT W g (rows.length * sz)∧W.cell? ⟨g,rows.length * sz,none⟩=none:=by
 subst hcs
 have hlt:g < W.heap.size:=by
  have:=hcell 0
  rw [List.getElem?_map,List.getElem?_eq_getElem h0] at this
  exact OM (a:=⟨g,0,none⟩) this
 refine ⟨⟨fun i r hr=>hl r (List.mem_of_getElem? hr),fun i j r d hr hd=>?_⟩,hlt,?_⟩
 ·have hj:=(List.getElem?_eq_some_iff.1 hd).1
  have e:=Ms hl hr hj
  rw [hd] at e
  refine ⟨Sd d,?_,hlt,?_⟩
  ·rw [Nat.zero_add,hcell,List.getElem?_map,e]; rfl
  ·have:=List.all_eq_true.1 h1 d (List.mem_of_getElem? e)
   cases d with
   | v x=>exact .v x this
   | _=>cases this
 ·rw [hcell,List.getElem?_eq_none]
  rw [List.length_map,J8 hl]; exact Nat.le_refl _
theorem L0 {P:Program}{W:World}{laid:List (String × DataW Unit)} (h:laidMet P laid W) {n:String}{d:DataW Unit} (hm:(n,d) ∈ laid) {g t:Nat} (hg:P.globalNamed n=some g) (ht:(P.globals[g]?).map (·.type)=some t) (hf:B3 P 4 t=true) {sz:Nat}{rows:List (List D)}
  (hcs:zN d=rows.flatten.map Sd) (hl:(rows.all fun r=>r.length == sz)=true) (h1:(rows.flatten.all WE)=true) (h0:(!rows.flatten.isEmpty)=true) :
  hU W (lT W) (lT W) g 0 sz rows∧lT W g (rows.length * sz)∧W.cell? ⟨g,rows.length * sz,none⟩=none:=by
 obtain ⟨ps,hl',_,_⟩:=h
 obtain ⟨g',t',cs,fuel,p,hg',ht',hv,hd⟩:=Mn hl' hm
 obtain rfl:=Option.some.inj (hg.symm.trans hg')
 obtain rfl:=Option.some.inj (ht.symm.trans ht')
 have hlit:=Gs 4 t hf _ _ _ hd
 have hcell:=World.var?_cell hg hv
 refine R2 (cs:=cs.toList) (fun i=>by rw [hcell i]; simp) (hlit.trans hcs) (fun r hr=>by have:=List.all_eq_true.1 hl r hr; simpa using this) h1 ?_
 cases hr:rows.flatten with
 | nil=>rw [hr] at h0; cases h0
 | cons a b=>simp
set_option maxRecDepth 20000
theorem HD {W:World}{laid:List (String × DataW Unit)} (h:laidMet Tryz.prog laid W) (h0:("watchtower/dur.units", _root_.Go.Proofs.YthgenmkengbmmaaGreatDoor.Rows.laid_watchtower_dur_units) ∈ laid) (h1:("watchtower/cond.signs", _root_.Go.Proofs.YthgenmkengbmmaaGreatDoor.Rows.laid_watchtower_cond_signs) ∈ laid) (h2:("internal/strconv.uint64pow10", _root_.Go.Proofs.YthgenmkengbmmaaGreatDoor.Rows.laid_internal_strconv_uint64pow10) ∈ laid):uU (lT W) W:=by
 intro e he
 simp only [D7,List.mem_cons,List.not_mem_nil,or_false] at he
 rcases he with rfl | rfl | rfl
 ·exact L0 h h0 (t:=96) (by kernel_rfl) (by kernel_rfl) (by kernel_rfl) (by kernel_rfl) (by kernel_rfl) (by kernel_rfl) (by kernel_rfl)
 ·exact L0 h h1 (t:=112) (by kernel_rfl) (by kernel_rfl) (by kernel_rfl) (by kernel_rfl) (by kernel_rfl) (by kernel_rfl) (by kernel_rfl)
 ·exact L0 h h2 (t:=165) (by kernel_rfl) (by kernel_rfl) (by kernel_rfl) (by kernel_rfl) (by kernel_rfl) (by kernel_rfl) (by kernel_rfl)
end Go.Proofs.YthgenmkengbmmaaGreatDoor.AM
