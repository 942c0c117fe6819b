/- A part of the proof: S0, Am22, So. -/
import Derived.Test.YtgkmbhllcekagaaGreatDoorProg
import Derived.Shelf.SlSortCmp.WholeK
import Derived.Shelf.SlSortCmp.NoneTotal
import Derived.Ground.SlsfProg
import Derived.Shelf.Strconv.Itoa3
import Derived.Shelf.Small.Strs
import Derived.Ground.NamesProg
import Derived.Test.YtgkmbhllcekagaaGreatDoorA4
import Derived.Test.YtgkmbhllcekagaaGreatDoorTy
set_option linter.all false
/- The sort, laid. -/
namespace Go.Proofs.YtgkmbhllcekagaaGreatDoor.AM
open Go Go.Shelf Go.Proofs
def Kl:Go.Shelf.Ren:=⟨fun | 6=>106 | 15=>126 | 14=>125 | 28=>145 | 29=>146 | 20=>137 | 21=>138 | 22=>139 | 23=>140 | 24=>141 | 25=>142 | 26=>143 | 27=>144 | 46=>154 | 47=>155 | 48=>156 | 49=>157 | 50=>158 | 57=>165 | n=>n,fun | 22=>27 | 24=>47 | 25=>130 | 3=>3 | 39=>146 | 0=>0 | 53=>167 | 55=>153 | 4=>4 | 46=>160 | 45=>159 | 50=>164 | 5=>5 | 9=>9 | 66=>173 | 70=>84 | 76=>179 | 77=>75 | n=>n,fun | n=>n⟩
theorem Lc:Go.Proofs.SlLaysF0.n6 Tryz.prog Kl:={
  mixed:=by kernel_rfl
  f6:=⟨Tryz.f106.name,by decide,Tryz.func106.trans (congrArg some (by kernel_rfl))⟩
  f14:=⟨Tryz.f125.name,by decide,Tryz.func125.trans (congrArg some (by kernel_rfl))⟩
  f15:=Tryz.func126.trans (congrArg some (by kernel_rfl))
  f20:=⟨Tryz.f137.name,by decide,Tryz.func137.trans (congrArg some (by kernel_rfl))⟩
  f21:=⟨Tryz.f138.name,by decide,Tryz.func138.trans (congrArg some (by kernel_rfl))⟩
  f22:=⟨Tryz.f139.name,by decide,Tryz.func139.trans (congrArg some (by kernel_rfl))⟩
  f23:=⟨Tryz.f140.name,by decide,Tryz.func140.trans (congrArg some (by kernel_rfl))⟩
  f24:=⟨Tryz.f141.name,by decide,Tryz.func141.trans (congrArg some (by kernel_rfl))⟩
  f25:=⟨Tryz.f142.name,by decide,Tryz.func142.trans (congrArg some (by kernel_rfl))⟩
  f26:=⟨Tryz.f143.name,by decide,Tryz.func143.trans (congrArg some (by kernel_rfl))⟩
  f27:=⟨Tryz.f144.name,by decide,Tryz.func144.trans (congrArg some (by kernel_rfl))⟩
  f28:=Tryz.func145.trans (congrArg some (by kernel_rfl))
  f29:=Tryz.func146.trans (congrArg some (by kernel_rfl))
  f46:=⟨Tryz.f154.name,by decide,Tryz.func154.trans (congrArg some (by kernel_rfl))⟩
  f47:=Tryz.func155.trans (congrArg some (by kernel_rfl))
  f48:=Tryz.func156.trans (congrArg some (by kernel_rfl))
  f49:=⟨Tryz.f157.name,by decide,Tryz.func157.trans (congrArg some (by kernel_rfl))⟩
  f50:=⟨Tryz.f158.name,by decide,Tryz.func158.trans (congrArg some (by kernel_rfl))⟩
  f57:=⟨Tryz.f165.name,by decide,Tryz.func165.trans (congrArg some (by kernel_rfl))⟩
  t0:=Tryz.underlying0
  a0:=Tryz.isAgg0
  z0:=Tryz.sizeOf0
  v0:=Tryz.zeroValue0
  t3:=Tryz.underlying3
  a3:=Tryz.isAgg3
  z3:=Tryz.sizeOf3
  v3:=Tryz.zeroValue3
  t4:=Tryz.underlying4
  a4:=Tryz.isAgg4
  z4:=Tryz.sizeOf4
  v4:=Tryz.zeroValue4
  t5:=Tryz.underlying5
  a5:=Tryz.isAgg5
  z5:=Tryz.sizeOf5
  v5:=Tryz.zeroValue5
  t9:=Tryz.underlying9
  a9:=Tryz.isAgg9
  z9:=Tryz.sizeOf9
  v9:=Tryz.zeroValue9
  t22:=Tryz.underlying27
  a22:=Tryz.isAgg27
  z22:=Tryz.sizeOf27
  v22:=Tryz.zeroValue27
  t25:=Tryz.underlying130
  a25:=Tryz.isAgg130
  z25:=Tryz.sizeOf130
  v25:=Tryz.zeroValue130
  t39:=Tryz.underlying146
  a39:=Tryz.isAgg146
  z39:=Tryz.sizeOf146
  v39:=Tryz.zeroValue146
  t45:=Tryz.underlying159
  a45:=Tryz.isAgg159
  z45:=Tryz.sizeOf159
  v45:=Tryz.zeroValue159
  t46:=Tryz.underlying160
  a46:=Tryz.isAgg160
  z46:=Tryz.sizeOf160
  v46:=Tryz.zeroValue160
  t50:=Tryz.underlying164
  a50:=Tryz.isAgg164
  z50:=Tryz.sizeOf164
  v50:=Tryz.zeroValue164
  t53:=Tryz.underlying167
  a53:=Tryz.isAgg167
  z53:=Tryz.sizeOf167
  v53:=Tryz.zeroValue167
  t55:=Tryz.underlying153
  a55:=Tryz.isAgg153
  z55:=Tryz.sizeOf153
  v55:=Tryz.zeroValue153
  t66:=Tryz.underlying173
  a66:=Tryz.isAgg173
  z66:=Tryz.sizeOf173
  v66:=Tryz.zeroValue173
  t70:=Tryz.underlying84
  a70:=Tryz.isAgg84
  z70:=Tryz.sizeOf84
  v70:=Tryz.zeroValue84
  t76:=Tryz.underlying179
  a76:=Tryz.isAgg179
  z76:=Tryz.sizeOf179
  v76:=Tryz.zeroValue179
  t77:=Tryz.underlying75
  a77:=Tryz.isAgg75
  z77:=Tryz.sizeOf75
  v77:=Tryz.zeroValue75 }
def KI:Go.Shelf.Ren:=⟨fun | 171=>72 | 243=>97 | 246=>117 | 283=>132 | 284=>133 | 285=>134 | 286=>135 | 129=>146 | 317=>150 | 318=>151 | 319=>152 | 320=>153 | 337=>163 | 338=>164 | n=>n,fun | 3=>3 | 9=>9 | 2=>2 | 4=>4 | 171=>152 | 0=>0 | 53=>153 | 37=>99 | 5=>5 | 173=>156 | 212=>171 | 51=>167 | 20=>20 | 213=>172 | 46=>146 | 232=>185 | 233=>186 | n=>n,fun | 17=>3 | 18=>6 | 19=>7 | n=>n⟩
theorem QA:Go.Proofs.LaysM.n171 Tryz.prog KI:={
  mixed:=by kernel_rfl
  f129:=Tryz.func146.trans (congrArg some (by kernel_rfl))
  f171:=Tryz.func72.trans (congrArg some (by kernel_rfl))
  f243:=Tryz.func97.trans (congrArg some (by kernel_rfl))
  f246:=Tryz.func117.trans (congrArg some (by kernel_rfl))
  f283:=Tryz.func132.trans (congrArg some (by kernel_rfl))
  f284:=Tryz.func133.trans (congrArg some (by kernel_rfl))
  f285:=Tryz.func134.trans (congrArg some (by kernel_rfl))
  f286:=Tryz.func135.trans (congrArg some (by kernel_rfl))
  f317:=Tryz.func150.trans (congrArg some (by kernel_rfl))
  f318:=Tryz.func151.trans (congrArg some (by kernel_rfl))
  f319:=Tryz.func152.trans (congrArg some (by kernel_rfl))
  f320:=Tryz.func153.trans (congrArg some (by kernel_rfl))
  f337:=Tryz.func163.trans (congrArg some (by kernel_rfl))
  f338:=Tryz.func164.trans (congrArg some (by kernel_rfl))
  t0:=Tryz.underlying0
  a0:=Tryz.isAgg0
  z0:=Tryz.sizeOf0
  v0:=Tryz.zeroValue0
  t2:=Tryz.underlying2
  a2:=Tryz.isAgg2
  z2:=Tryz.sizeOf2
  v2:=Tryz.zeroValue2
  t3:=Tryz.underlying3
  a3:=Tryz.isAgg3
  z3:=Tryz.sizeOf3
  v3:=Tryz.zeroValue3
  t4:=Tryz.underlying4
  a4:=Tryz.isAgg4
  z4:=Tryz.sizeOf4
  v4:=Tryz.zeroValue4
  t5:=Tryz.underlying5
  a5:=Tryz.isAgg5
  z5:=Tryz.sizeOf5
  v5:=Tryz.zeroValue5
  t9:=Tryz.underlying9
  a9:=Tryz.isAgg9
  z9:=Tryz.sizeOf9
  v9:=Tryz.zeroValue9
  t20:=Tryz.underlying20
  a20:=Tryz.isAgg20
  z20:=Tryz.sizeOf20
  v20:=Tryz.zeroValue20
  t37:=Tryz.underlying99
  a37:=Tryz.isAgg99
  z37:=Tryz.sizeOf99
  v37:=Tryz.zeroValue99
  t46:=Tryz.underlying146
  a46:=Tryz.isAgg146
  z46:=Tryz.sizeOf146
  v46:=Tryz.zeroValue146
  t51:=Tryz.underlying167
  a51:=Tryz.isAgg167
  z51:=Tryz.sizeOf167
  v51:=Tryz.zeroValue167
  t53:=Tryz.underlying153
  a53:=Tryz.isAgg153
  z53:=Tryz.sizeOf153
  v53:=Tryz.zeroValue153
  t171:=Tryz.underlying152
  a171:=Tryz.isAgg152
  z171:=Tryz.sizeOf152
  v171:=Tryz.zeroValue152
  t173:=Tryz.underlying156
  a173:=Tryz.isAgg156
  z173:=Tryz.sizeOf156
  v173:=Tryz.zeroValue156
  t212:=Tryz.underlying171
  a212:=Tryz.isAgg171
  z212:=Tryz.sizeOf171
  v212:=Tryz.zeroValue171
  t213:=Tryz.underlying172
  a213:=Tryz.isAgg172
  z213:=Tryz.sizeOf172
  t232:=Tryz.underlying185
  a232:=Tryz.isAgg185
  z232:=Tryz.sizeOf185
  v232:=Tryz.zeroValue185
  t233:=Tryz.underlying186
  a233:=Tryz.isAgg186
  z233:=Tryz.sizeOf186
  v233:=Tryz.zeroValue186
  g17:=by kernel_rfl
  g18:=by kernel_rfl
  g19:=by kernel_rfl
  i0:=by kernel_rfl
  i2:=by kernel_rfl
  i3:=by kernel_rfl
  i4:=by kernel_rfl
  i5:=by kernel_rfl
  i9:=by kernel_rfl
  i20:=by kernel_rfl
  i37:=by kernel_rfl
  i46:=by kernel_rfl
  i51:=by kernel_rfl
  i53:=by kernel_rfl
  i171:=by kernel_rfl
  i173:=by kernel_rfl
  i212:=by kernel_rfl
  i232:=by kernel_rfl
  i233:=by kernel_rfl
  m17:=by kernel_rfl
  m18:=by kernel_rfl
  m19:=by kernel_rfl }
def Mb:Go.Shelf.Ren:=⟨fun | 137=>82 | 217=>98 | 266=>118 | n=>n,fun | 9=>9 | 5=>5 | 3=>3 | n=>n,fun | n=>n⟩
theorem Ri:Go.Proofs.Lays.n137 Tryz.prog Mb:={
  mixed:=by kernel_rfl
  f137:=Tryz.func82.trans (congrArg some (by kernel_rfl))
  f217:=Tryz.func98.trans (congrArg some (by kernel_rfl))
  f266:=Tryz.func118.trans (congrArg some (by kernel_rfl))
  t3:=Tryz.underlying3
  a3:=Tryz.isAgg3
  z3:=Tryz.sizeOf3
  v3:=Tryz.zeroValue3
  t5:=Tryz.underlying5
  a5:=Tryz.isAgg5
  z5:=Tryz.sizeOf5
  v5:=Tryz.zeroValue5
  t9:=Tryz.underlying9
  a9:=Tryz.isAgg9
  z9:=Tryz.sizeOf9
  v9:=Tryz.zeroValue9 }
end Go.Proofs.YtgkmbhllcekagaaGreatDoor.AM
/- The library's sort keeps the contract. -/
namespace Go.Proofs.YtgkmbhllcekagaaGreatDoor.AM
open Go Go.Shelf Go.RowKit Go.Lib Go.Sort
theorem tY {α:Type} [Inhabited α] (enc:α→List Value) (k:Nat) (w:World) (blk n:Nat) (d:Array α) (os:Array Go.Obj):E2 w (sortWorldK enc k w blk 0 n d os) blk:=by
  refine ⟨fun j hj hlt=>?_,?_,rfl,rfl,rfl,?_⟩
  · simp only [sortWorldK,grow,putRowK,putRow,mapBlock,Sort.ahead]
    rw [Array.getElem?_append_left (by simpa using hlt),Array.getElem?_modify,if_neg (Ne.symm hj)]
  · simp [sortWorldK,grow,putRowK,putRow,mapBlock,Sort.ahead]
  · show w.drawn≤w.drawn + n
    omega
theorem Fy {α:Type} [Inhabited α] (enc:α→List Value) (k:Nat) (w:World) (blk n:Nat) (d:Array α) (os:Array Go.Obj) {c:Array Value}{e:TypeId}{t:Nat × Nat} (hb:blk < w.heap.size) (h:w.heap[blk]?=some (.cells c e t))
    (hs:d.size * k≤c.size):∃ c',(sortWorldK enc k w blk 0 n d os).heap[blk]?=some (.cells c' e t)∧c'.size=c.size∧∀ j,j < d.size * k→c'[j]?=some ((enc d[j / k]!)[j % k]!):=by
  refine ⟨putCells id 0 (flatK enc k d) c,?_,by simp [putCells],?_⟩
  · simp only [sortWorldK,grow,putRowK,putRow,mapBlock,Sort.ahead]
    rw [Array.getElem?_append_left (by simpa using hb),Array.getElem?_modify,if_pos rfl,h]
    rfl
  · intro j hj
    have hjc:j < c.size:=by omega
    simp only [putCells,Array.getElem?_mapIdx,Array.getElem?_eq_getElem hjc,Option.map_some,size_flatK]
    rw [if_pos ⟨Nat.zero_le _,by omega⟩,Nat.sub_zero,get_flatK _ _ _ _ hj]
    rfl
theorem El {α:Type} [Inhabited α] {lt:α→α→Bool}{d:Array α} (h:SortedIn lt 0 d.size d):d.toList.Pairwise (fun x y=>lt y x=false):=by
  rw [List.pairwise_iff_getElem]
  intro i j hi hj hij
  have:=h i j (Nat.zero_le _) hij (by simpa using hj)
  have hi':i < d.size:=by simpa using hi
  have hj':j < d.size:=by simpa using hj
  rw [getElem!_pos d i hi',getElem!_pos d j hj'] at this
  simpa using this
theorem L6 {P:Program}{ρ:Ren} (L:SlLaysF0.n6 P ρ) (k:Nat) (aE:∀ w,(isAgg (ρ.t 24)).run P w=.ok true w) (zE:∀ w,(Go.sizeOf (ρ.t 24)).run P w=.ok k w) (g:Nat)
    (eg:∀ args w,(callFunc g args).run P w=.ok (.enter g args) w):CF P (ρ.f 6) g k false:=by
  intro α _ enc cf blk cap d w hk h1 o1 o2 o3 hcmp hH hblk hsz
  have hO:SWO (ltOf cf):=⟨fun x=>by simpa [ltOf] using o1 x,fun x y z a b=>by simp only [ltOf,decide_eq_true_eq] at *; exact o2 x y z a b,
    fun x y z a b=>by simp only [ltOf,decide_eq_false_iff_not] at *; exact o3 x y z a b⟩
  have hc:CmpLays P g #[] enc k cf blk 0 d.size w:=by
    intro m os dk hs x y
    refine (hcmp _ (tY enc k w blk m dk os) x y).mono ?_
    rintro e w' ⟨h1,q,os',h2⟩
    exact ⟨h1,q,os',h2⟩
  have hh:HoldsK enc k w blk 0 d:=by
    intro j hj
    have hj':j < d.size * k:=by simpa using hj
    obtain ⟨e1,e2⟩:=hH j hj'
    rw [get_flatK _ _ _ _ hj',Nat.zero_add]
    exact ⟨e1,e2⟩
  refine (AnyQ.slices_SortFunc L k aE zE enc hk h1 cf hO g #[] blk 0 cap d w eg hc hh hblk hsz).mono ?_
  rintro e w' ⟨rfl,d',n,os,hp,hs,rfl⟩
  have hsz':d'.size=d.size:=hp.1
  refine ⟨rfl,tY enc k w blk n d' os,d',?_,?_,?_⟩
  · have:=hp.2.2
    have e1:d'.extract 0 d.size=d':=by rw [← hsz']; exact Array.extract_size
    have e2:d.extract 0 d.size=d:=Array.extract_size
    rw [e1,e2] at this
    exact this
  · rw [← hsz'] at hs
    refine (El hs).imp ?_
    intro x y h
    simpa [ltOf] using h
  · intro c e t hct
    have hle:d'.size * k≤c.size:=by
      rw [hsz']
      rcases Nat.eq_zero_or_pos (d.size * k) with h0 | h0
      · omega
      · obtain ⟨e1,_⟩:=hH (d.size * k - 1) (by omega)
        rw [rO hct] at e1
        rcases Nat.lt_or_ge (d.size * k - 1) c.size with h | h
        · omega
        · rw [Array.getElem?_eq_none h] at e1; cases e1
    have:=Fy enc k w blk n d' os hblk hct hle
    rw [hsz'] at this
    exact this
end Go.Proofs.YtgkmbhllcekagaaGreatDoor.AM
/- The sorts. -/
namespace Go.Proofs.YtgkmbhllcekagaaGreatDoor.AM
open Go Go.Shelf Go.RowKit Go.Proofs
theorem Mg:aW Tryz.prog 106=true:=by kernel_rfl
theorem Fg:CF Tryz.prog 106 107 2 false :=
  L6 Lc 2 (y8 (aP (t:=47) rfl)) (cY (aP (t:=47) rfl)) 107 (enters_of Tryz.func107 (by kernel_rfl) rfl)
theorem DC:DD Tryz.prog 106 107:=fun a cap w=>AnyF.slices_SortFunc_none Lc a cap _ w
end Go.Proofs.YtgkmbhllcekagaaGreatDoor.AM
