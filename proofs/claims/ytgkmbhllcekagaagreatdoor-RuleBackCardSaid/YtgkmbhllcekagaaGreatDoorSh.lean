/- A part of the proof: Sh, Gz, Gm. -/
import Derived.Test.YtgkmbhllcekagaaGreatDoorOk
import Derived.Test.YtgkmbhllcekagaaGreatDoorA4
import Derived.WalkKit
import Derived.JoinedOf
import Derived.Test.YtgkmbhllcekagaaGreatDoorRows
import Derived.OpenShut
import Derived.FnData
import Derived.ChangeArms
set_option linter.all false
/- What comes in, opened. -/
namespace Go.Proofs.YtgkmbhllcekagaaGreatDoor.AM
open Go Go.Proofs
set_option maxRecDepth 20000
theorem B8:ownKnob Tryz.prog.godebug=none:=by kernel_rfl
theorem yH:laidOutB Tryz.prog=true:=by kernel_rfl
theorem CL {α:Type}{enc:α→List D}{Q:List D→Prop}{ok:α→Prop} (hQ:∀ r,Q r→∃ a,r=enc a∧ok a):∀ {rows:List (List D)},(∀ r ∈ rows,Q r)→∃ l:List α,rows=l.map enc∧∀ a ∈ l,ok a
  | [],_=>⟨[],rfl,fun _ h=>by cases h⟩
  | r :: rows,h=>by
    obtain ⟨a,rfl,ha⟩:=hQ r (h r List.mem_cons_self)
    obtain ⟨l,rfl,hl⟩:=CL hQ (rows:=rows) (fun r hr=>h r (List.mem_cons_of_mem _ hr))
    exact ⟨a :: l,rfl,fun b hb=>by rcases List.mem_cons.1 hb with rfl | hb; exact ha; exact hl b hb⟩
theorem DH {n:Nat}{r:List D} (h:shZ Tryz.prog (n + 1) 3 r):∃ x:Int,r=cI x∧(okI .i64) x:=by
  obtain ⟨i,rfl,h1,h2⟩:=QK (bR (aP (t:=3) rfl)).1 h
  exact ⟨i,rfl,h1,h2⟩
theorem BC {n:Nat}{r:List D} (h:shZ Tryz.prog (n + 1) 9 r):∃ x:Str,r=cS x∧okS x:=by
  obtain ⟨s,rfl,hs⟩:=Qb (bR (aP (t:=9) rfl)).1 h
  exact ⟨s.data.toList,rfl,hs⟩
theorem Ul {n:Nat}{r:List D} (h:shZ Tryz.prog (n + 1) 4 r):∃ x:Bool,r=cB x∧okB x:=by
  obtain ⟨b,rfl⟩:=Pf (bR (aP (t:=4) rfl)).1 h
  exact ⟨b,rfl,trivial⟩
theorem Tr {n:Nat}{r:List D} (h:shZ Tryz.prog (n + 2) 81 r):∃ x:a8,r=aB x∧D5 x:=by
  obtain ⟨a0,b0,rfl,h0,a1,b1,rfl,h1,a2,b2,rfl,h2,rfl⟩:=yN (bR (aP (t:=81) rfl)).1 h
  obtain ⟨x0,rfl,k0⟩:=BC h0
  obtain ⟨x1,rfl,k1⟩:=BC h1
  obtain ⟨x2,rfl,k2⟩:=Ul h2
  exact ⟨⟨x0,x1,x2⟩,rfl,k0,k1,k2⟩
theorem TK {n:Nat}{r:List D} (h:shZ Tryz.prog (n + 3) 22 r):∃ x:(List a8),r=(cL aB) x∧(okL D5) x:=by
  obtain ⟨rows,rfl,hl,hr⟩:=JM (bR (aP (t:=22) rfl)).1 h
  obtain ⟨l,rfl,hk⟩:=CL (fun r hr=>Tr hr) hr
  exact ⟨l,rfl,by simpa using hl,hk⟩
theorem TG {n:Nat}{r:List D} (h:shZ Tryz.prog (n + 4) 24 r):∃ x:bM,r=kX x∧NM x:=by
  obtain ⟨a0,b0,rfl,h0,a1,b1,rfl,h1,rfl⟩:=yN (bR (aP (t:=24) rfl)).1 h
  obtain ⟨x0,rfl,k0⟩:=BC h0
  obtain ⟨x1,rfl,k1⟩:=TK h1
  exact ⟨⟨x0,x1⟩,rfl,k0,k1⟩
theorem SR {n:Nat}{r:List D} (h:shZ Tryz.prog (n + 5) 26 r):∃ x:bF,r=fX x∧La x:=by
  obtain ⟨a0,b0,rfl,h0,a1,b1,rfl,h1,a2,b2,rfl,h2,rfl⟩:=yN (bR (aP (t:=26) rfl)).1 h
  obtain ⟨x0,rfl,k0⟩:=TG h0
  obtain ⟨x1,rfl,k1⟩:=DH h1
  obtain ⟨x2,rfl,k2⟩:=DH h2
  exact ⟨⟨x0,x1,x2⟩,rfl,k0,k1,k2⟩
theorem SV {n:Nat}{r:List D} (h:shZ Tryz.prog (n + 2) 47 r):∃ x:aJ,r=aD x∧F9 x:=by
  obtain ⟨a0,b0,rfl,h0,a1,b1,rfl,h1,rfl⟩:=yN (bR (aP (t:=47) rfl)).1 h
  obtain ⟨x0,rfl,k0⟩:=BC h0
  obtain ⟨x1,rfl,k1⟩:=BC h1
  exact ⟨⟨x0,x1⟩,rfl,k0,k1⟩
theorem Sx {n:Nat}{r:List D} (h:shZ Tryz.prog (n + 3) 27 r):∃ x:(List aJ),r=(cL aD) x∧(okL F9) x:=by
  obtain ⟨rows,rfl,hl,hr⟩:=JM (bR (aP (t:=27) rfl)).1 h
  obtain ⟨l,rfl,hk⟩:=CL (fun r hr=>SV hr) hr
  exact ⟨l,rfl,by simpa using hl,hk⟩
theorem SG {n:Nat}{r:List D} (h:shZ Tryz.prog (n + 6) 29 r):∃ x:aZ,r=d9 x∧qH x:=by
  obtain ⟨a0,b0,rfl,h0,a1,b1,rfl,h1,a2,b2,rfl,h2,a3,b3,rfl,h3,a4,b4,rfl,h4,rfl⟩:=yN (bR (aP (t:=29) rfl)).1 h
  obtain ⟨x0,rfl,k0⟩:=BC h0
  obtain ⟨x1,rfl,k1⟩:=SR h1
  obtain ⟨x2,rfl,k2⟩:=DH h2
  obtain ⟨x3,rfl,k3⟩:=DH h3
  obtain ⟨x4,rfl,k4⟩:=Sx h4
  exact ⟨⟨x0,x1,x2,x3,x4⟩,rfl,k0,k1,k2,k3,k4⟩
theorem Tz {n:Nat}{r:List D} (h:shZ Tryz.prog (n + 2) 53 r):∃ x:aK,r=aF x∧pV x:=by
  obtain ⟨a0,b0,rfl,h0,a1,b1,rfl,h1,a2,b2,rfl,h2,rfl⟩:=yN (bR (aP (t:=53) rfl)).1 h
  obtain ⟨x0,rfl,k0⟩:=DH h0
  obtain ⟨x1,rfl,k1⟩:=DH h1
  obtain ⟨x2,rfl,k2⟩:=BC h2
  exact ⟨⟨x0,x1,x2⟩,rfl,k0,k1,k2⟩
theorem SY {n:Nat}{r:List D} (h:shZ Tryz.prog (n + 3) 30 r):∃ x:(List aK),r=(cL aF) x∧(okL pV) x:=by
  obtain ⟨rows,rfl,hl,hr⟩:=JM (bR (aP (t:=30) rfl)).1 h
  obtain ⟨l,rfl,hk⟩:=CL (fun r hr=>Tz hr) hr
  exact ⟨l,rfl,by simpa using hl,hk⟩
theorem E7 {n:Nat}{ds:List D} (h:shZ Tryz.prog (n + 1) 3 ds):∃ x:Int,pT Tryz.prog 3 ds=vI x∧(okI .i64) x:=by
  obtain ⟨x,rfl,hk⟩:=DH h
  refine ⟨x,?_,hk⟩
  unfold pT
  rw [(bR (aP (t:=3) rfl)).1]
  rfl
theorem Nu {n:Nat}{ds:List D} (h:shZ Tryz.prog (n + 1) 9 ds):∃ x:Str,pT Tryz.prog 9 ds=vS x∧okS x:=by
  obtain ⟨x,rfl,hk⟩:=BC h
  refine ⟨x,?_,hk⟩
  unfold pT
  rw [(bR (aP (t:=9) rfl)).1]
  rfl
theorem zC {n:Nat}{ds:List D} (h:shZ Tryz.prog (n + 6) 29 ds):∃ x:aZ,pT Tryz.prog 29 ds=(ag d9) x∧qH x:=by
  obtain ⟨x,rfl,hk⟩:=SG h
  refine ⟨x,?_,hk⟩
  unfold pT
  rw [(bR (aP (t:=29) rfl)).1]
  rfl
theorem Gy {n:Nat}{ds:List D} (h:shZ Tryz.prog (n + 3) 30 ds):∃ x:(List aK),pT Tryz.prog 30 ds=(sl aF) x∧(okL pV) x:=by
  obtain ⟨x,rfl,hk⟩:=SY h
  refine ⟨x,?_,hk⟩
  unfold pT
  rw [(bR (aP (t:=30) rfl)).1]
  rfl
end Go.Proofs.YtgkmbhllcekagaaGreatDoor.AM
/- What the listed package variables hold: their cells, out of the data by which they are tied. -/
namespace Go.Proofs.YtgkmbhllcekagaaGreatDoor.AM
open Go Go.Proofs
theorem JQ {P:Program}{w:World}{n:String}{d:DataW Unit}:∀ {l:List (String × DataW Unit)}{ps:List MemPlace},DataW.LaidVars P w l ps→(n,d) ∈ l →
    ∃ g t cs fuel p,P.globalNamed n=some g∧(P.globals[g]?).map (·.type)=some t∧w.var? P n=some cs∧DataW.trod (fun _=>()) P w 0 (fun _=>true) false fuel t cs.toList=some (d,p)
  | [],_,_,h=>by cases h
  | (n',d') :: r,ps,h,hm=>by
    obtain ⟨g,t,cs,fuel,p,q,h1,h2,h3,h4,h5,_⟩:=h
    rcases List.mem_cons.1 hm with e | hm
    · cases e; exact ⟨g,t,cs,fuel,p,h1,h2,h3,h4⟩
    · exact JQ h5 hm
mutual
def vN {H:Type}:DataW H→List Value
  | .lit (.string b)=>[.string ⟨⟨b⟩⟩]
  | .lit (.int k i)=>[.int k i]
  | .lit (.bool b)=>[.bool b]
  | .agg ps=>lT ps
  | _=>[]
def lT {H:Type}:List (DataW H)→List Value
  | []=>[]
  | d :: r=>vN d ++ lT r
end
def yR (P:Program):Nat→TypeId→Bool
  | 0,_=>false
  | n + 1,t=>
    match P.underlying t with
    | some .bool=>true
    | some (.int _)=>true
    | some .string=>true
    | some (.struct fs)=>decide (jZ P 0 fs.toList=some (P.cellsOf t)) && fs.toList.all fun f=>yR P n f.type
    | some (.array m e)=>decide (P.cellsOf t=m * P.cellsOf e) && yR P n e
    | _=>false
section
variable {H:Type}{enc:TypeId × Value→H}{P:Program}{w:World}{base:Nat}{spare:Nat→Bool}{held:Bool}
theorem Dq:∀ (n:Nat) (t:TypeId),yR P n t=true→∀ (fuel:Nat) (cs:List Value) (x:DataW H × List MemPlace),DataW.trod enc P w base spare held fuel t cs=some x→cs=vN x.1
  | 0,_,h,_,_,_,_=>by cases h
  | n + 1,t,h,fuel,cs,x,hx=>by
    unfold yR at h
    split at h
    · rename_i ht
      obtain ⟨b,rfl,rfl⟩:=DataW.trod_bool ht hx; rfl
    · rename_i k ht
      obtain ⟨i,rfl,rfl,_⟩:=DataW.trod_int ht hx; rfl
    · rename_i ht
      obtain ⟨s,rfl,rfl,_⟩:=DataW.trod_string ht hx; rfl
    · rename_i fs ht
      simp only [Bool.and_eq_true,decide_eq_true_eq,List.all_eq_true] at h
      obtain ⟨hpk,hall⟩:=h
      obtain ⟨xs,m,_,rfl,hlen,hxl,hel⟩:=DataW.trod_struct ht hx
      have key:∀ (l:List Field) (k p:Nat),(∀ f ∈ l,yR P n f.type=true)→jZ P p l=some cs.length→(∀ (i:Nat) (f:Field),l[i]?=some f→DataW.trod enc P w base spare held m f.type ((cs.drop f.offset).take (P.cellsOf f.type))=xs[k + i]?) →
          k + l.length=xs.length→p≤cs.length→cs.drop p=lT ((xs.drop k).map (·.1)):=by
        intro l
        induction l with
        | nil=>
          intro k p _ hp _ hk _
          simp only [jZ,Option.some.injEq] at hp
          rw [hp,List.drop_length,List.drop_eq_nil_of_le (by simp at hk; omega)]
          simp [lT]
        | cons f l ih=>
          intro k p hpl hp hx hk hle
          simp only [jZ] at hp
          split at hp
          · rename_i hoff
            have h1:=hx 0 f rfl
            have hk':k < xs.length:=by simp at hk; omega
            rw [Nat.add_zero,List.getElem?_eq_getElem hk'] at h1
            have ha:=Dq n f.type (hpl f List.mem_cons_self) m _ _ h1
            have hge:∀ (l:List Field) (p q:Nat),jZ P p l=some q→p≤q:=by
              intro l
              induction l with
              | nil=>intro p q h; simp only [jZ,Option.some.injEq] at h; omega
              | cons g l ih=>
                intro p q h
                simp only [jZ] at h
                split at h
                · have:=ih _ _ h; omega
                · cases h
            have hle2:=hge _ _ _ hp
            have hb:=ih (k + 1) (p + P.cellsOf f.type) (fun g hg=>hpl g (List.mem_cons_of_mem _ hg)) hp (fun i g hg=>by rw [hx (i + 1) g (by simpa using hg)]; congr 1; omega) (by simp at hk; omega) hle2
            rw [List.drop_eq_getElem_cons hk',List.map_cons]
            simp only [lT]
            rw [← ha,← hb,hoff,← List.drop_drop,List.take_append_drop]
          · cases hp
      have:=key fs.toList 0 0 hall (by rw [hpk,hlen]) (fun i f hf=>by rw [Nat.zero_add]; exact hel i f (by simpa using hf)) (by simp [hxl]) (Nat.zero_le _)
      simpa [vN] using this
    · rename_i mm e ht
      simp only [Bool.and_eq_true,decide_eq_true_eq] at h
      obtain ⟨hsz,hpl⟩:=h
      obtain ⟨xs,m,_,rfl,hlen,hxl,hel⟩:=DataW.trod_array ht hx
      have key:∀ (q k:Nat),k + q=mm→cs.drop (k * P.cellsOf e)=lT ((xs.drop k).map (·.1)):=by
        intro q
        induction q with
        | zero=>
          intro k hk
          rw [List.drop_of_length_le (by rw [hlen,hsz,← hk]; simp),List.drop_eq_nil_of_le (by omega)]
          simp [lT]
        | succ q ih=>
          intro k hk
          have h1:=hel k (by omega)
          have hk':k < xs.length:=by omega
          rw [List.getElem?_eq_getElem hk'] at h1
          have ha:=Dq n e hpl m _ _ h1
          have hb:=ih (k + 1) (by omega)
          rw [List.drop_eq_getElem_cons hk',List.map_cons]
          simp only [lT]
          rw [← ha,← hb,Nat.succ_mul,← List.drop_drop,List.take_append_drop]
      have:=key mm 0 (by omega)
      simpa [vN] using this
    · cases h
end
def OU:D→Value
  | .v x=>x
  | _=>undef
def R3:D→Bool
  | .v x=>x.oneCell'
  | _=>false
theorem Jw {sz:Nat}:∀ {rows:List (List D)}{i j:Nat}{r:List D},(∀ r ∈ rows,r.length=sz)→rows[i]?=some r→j < r.length→rows.flatten[i * sz + j]?=r[j]?
  | [],i,j,r,_,h,_=>by simp at h
  | q :: rows,0,j,r,_,h,hj=>by
    cases h
    rw [List.flatten_cons,Nat.zero_mul,Nat.zero_add,List.getElem?_append_left hj]
  | q :: rows,i + 1,j,r,hl,h,hj=>by
    have hq:=hl q List.mem_cons_self
    have:=Jw (rows:=rows) (fun r hr=>hl r (List.mem_cons_of_mem _ hr)) (by simpa using h) hj
    rw [List.flatten_cons,Nat.succ_mul,List.getElem?_append_right (by omega),← this]
    congr 1; omega
theorem G5 {sz:Nat}:∀ {rows:List (List D)},(∀ r ∈ rows,r.length=sz)→rows.flatten.length=rows.length * sz
  | [],_=>by simp
  | q :: rows,hl=>by
    rw [List.flatten_cons,List.length_append,G5 (rows:=rows) (fun r hr=>hl r (List.mem_cons_of_mem _ hr)),hl q List.mem_cons_self,List.length_cons,Nat.succ_mul]; omega
theorem Ph {W:World}{g sz:Nat}{rows:List (List D)}{cs:List Value} (hcell:∀ i,W.cell? ⟨g,i,none⟩=cs[i]?) (hcs:cs=rows.flatten.map OU) (hl:∀ r ∈ rows,r.length=sz) (h1:(rows.flatten.all R3)=true) (h0:0 < rows.flatten.length) :
    gJ W (kW W) (kW W) g 0 sz rows∧kW W g (rows.length * sz)∧W.cell? ⟨g,rows.length * sz,none⟩=none:=by
  subst hcs
  have hlt:g < W.heap.size:=by
    have:=hcell 0
    rw [List.getElem?_map,List.getElem?_eq_getElem h0] at this
    exact Lo (a:=⟨g,0,none⟩) this
  refine ⟨⟨fun i r hr=>hl r (List.mem_of_getElem? hr),fun i j r d hr hd=>?_⟩,hlt,?_⟩
  · have hj:=(List.getElem?_eq_some_iff.1 hd).1
    have e:=Jw hl hr hj
    rw [hd] at e
    refine ⟨OU d,?_,hlt,?_⟩
    · rw [Nat.zero_add,hcell,List.getElem?_map,e]; rfl
    · have:=List.all_eq_true.1 h1 d (List.mem_of_getElem? e)
      cases d with
      | v x=>exact .v x this
      | _=>cases this
  · rw [hcell,List.getElem?_eq_none]
    rw [List.length_map,G5 hl]; exact Nat.le_refl _
theorem H2 {P:Program}{W:World}{laid:List (String × DataW Unit)} (h:laidMet P laid W) {n:String}{d:DataW Unit} (hm:(n,d) ∈ laid) {g t:Nat} (hg:P.globalNamed n=some g) (ht:(P.globals[g]?).map (·.type)=some t) (hf:yR P 4 t=true) {sz:Nat}{rows:List (List D)}
    (hcs:vN d=rows.flatten.map OU) (hl:(rows.all fun r=>r.length == sz)=true) (h1:(rows.flatten.all R3)=true) (h0:(!rows.flatten.isEmpty)=true) :
    gJ W (kW W) (kW W) g 0 sz rows∧kW W g (rows.length * sz)∧W.cell? ⟨g,rows.length * sz,none⟩=none:=by
  obtain ⟨ps,hl',_,_⟩:=h
  obtain ⟨g',t',cs,fuel,p,hg',ht',hv,hd⟩:=JQ hl' hm
  obtain rfl:=Option.some.inj (hg.symm.trans hg')
  obtain rfl:=Option.some.inj (ht.symm.trans ht')
  have hlit:=Dq 4 t hf _ _ _ hd
  have hcell:=World.var?_cell hg hv
  refine Ph (cs:=cs.toList) (fun i=>by rw [hcell i]; simp) (hlit.trans hcs) (fun r hr=>by have:=List.all_eq_true.1 hl r hr; simpa using this) h1 ?_
  cases hr:rows.flatten with
  | nil=>rw [hr] at h0; cases h0
  | cons a b=>simp
end Go.Proofs.YtgkmbhllcekagaaGreatDoor.AM
/- The listed package variables lie as they were laid. -/
namespace Go.Proofs.YtgkmbhllcekagaaGreatDoor.AM
open Go Go.Proofs
set_option maxRecDepth 20000
theorem Fc {W:World}{laid:List (String × DataW Unit)} (h:laidMet Tryz.prog laid W) (h0:("watchtower/cond.signs", _root_.Go.Proofs.YtgkmbhllcekagaaGreatDoor.Rows.laid_watchtower_cond_signs) ∈ laid) (h1:("watchtower/dur.units", _root_.Go.Proofs.YtgkmbhllcekagaaGreatDoor.Rows.laid_watchtower_dur_units) ∈ laid) (h3:("internal/strconv.uint64pow10", _root_.Go.Proofs.YtgkmbhllcekagaaGreatDoor.Rows.laid_internal_strconv_uint64pow10) ∈ laid):sB (kW W) W:=by
  intro e he
  simp only [BA,List.mem_cons,List.not_mem_nil,or_false] at he
  rcases he with rfl | rfl | rfl
  · exact H2 h h0 (t:=95) (by kernel_rfl) (by kernel_rfl) (by kernel_rfl) (by kernel_rfl) (by kernel_rfl) (by kernel_rfl) (by kernel_rfl)
  · exact H2 h h1 (t:=98) (by kernel_rfl) (by kernel_rfl) (by kernel_rfl) (by kernel_rfl) (by kernel_rfl) (by kernel_rfl) (by kernel_rfl)
  · exact H2 h h3 (t:=171) (by kernel_rfl) (by kernel_rfl) (by kernel_rfl) (by kernel_rfl) (by kernel_rfl) (by kernel_rfl) (by kernel_rfl)
end Go.Proofs.YtgkmbhllcekagaaGreatDoor.AM
