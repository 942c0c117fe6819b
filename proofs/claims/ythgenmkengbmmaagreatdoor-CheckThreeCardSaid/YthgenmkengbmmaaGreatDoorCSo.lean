/- So -/
import Derived.Test.YthgenmkengbmmaaGreatDoorProg
import Derived.Shelf.SlSortCmp.WholeK
import Derived.Shelf.SlSortCmp.NoneTotal
import Derived.Ground.SlsfProg
import Derived.Shelf.Strconv.Itoa3
import Derived.Shelf.Small.Strs
import Derived.Ground.NamesProg
import Derived.Test.YthgenmkengbmmaaGreatDoorCA4
import Derived.Test.YthgenmkengbmmaaGreatDoorCTy
set_option linter.all false
namespace Go.Proofs.YthgenmkengbmmaaGreatDoor.AM
open Go Go.Shelf Go.Proofs
def NE:Go.Shelf.Ren:=⟨fun | 6=>157 | 15=>170 | 14=>169 | 28=>181 | 29=>137 | 20=>173 | 21=>174 | 22=>175 | 23=>176 | 24=>177 | 25=>178 | 26=>179 | 27=>180 | 46=>182 | 47=>183 | 48=>184 | 49=>185 | 50=>186 | 57=>187 | n=>n,fun | 22=>40 | 24=>87 | 25=>192 | 3=>3 | 39=>168 | 0=>0 | 53=>166 | 55=>148 | 4=>4 | 46=>207 | 45=>206 | 50=>211 | 5=>5 | 9=>9 | 66=>213 | 70=>156 | 76=>218 | 77=>99 | n=>n,fun | n=>n⟩
theorem Oe:Go.Proofs.SlLaysF0.n6 Tryz.prog NE:={
 mixed:=by kernel_rfl
 f6:=⟨Tryz.f157.name,by decide,Tryz.func157.trans (congrArg some (by kernel_rfl))⟩
 f14:=⟨Tryz.f169.name,by decide,Tryz.func169.trans (congrArg some (by kernel_rfl))⟩
 f15:=Tryz.func170.trans (congrArg some (by kernel_rfl))
 f20:=⟨Tryz.f173.name,by decide,Tryz.func173.trans (congrArg some (by kernel_rfl))⟩
 f21:=⟨Tryz.f174.name,by decide,Tryz.func174.trans (congrArg some (by kernel_rfl))⟩
 f22:=⟨Tryz.f175.name,by decide,Tryz.func175.trans (congrArg some (by kernel_rfl))⟩
 f23:=⟨Tryz.f176.name,by decide,Tryz.func176.trans (congrArg some (by kernel_rfl))⟩
 f24:=⟨Tryz.f177.name,by decide,Tryz.func177.trans (congrArg some (by kernel_rfl))⟩
 f25:=⟨Tryz.f178.name,by decide,Tryz.func178.trans (congrArg some (by kernel_rfl))⟩
 f26:=⟨Tryz.f179.name,by decide,Tryz.func179.trans (congrArg some (by kernel_rfl))⟩
 f27:=⟨Tryz.f180.name,by decide,Tryz.func180.trans (congrArg some (by kernel_rfl))⟩
 f28:=Tryz.func181.trans (congrArg some (by kernel_rfl))
 f29:=Tryz.func137.trans (congrArg some (by kernel_rfl))
 f46:=⟨Tryz.f182.name,by decide,Tryz.func182.trans (congrArg some (by kernel_rfl))⟩
 f47:=Tryz.func183.trans (congrArg some (by kernel_rfl))
 f48:=Tryz.func184.trans (congrArg some (by kernel_rfl))
 f49:=⟨Tryz.f185.name,by decide,Tryz.func185.trans (congrArg some (by kernel_rfl))⟩
 f50:=⟨Tryz.f186.name,by decide,Tryz.func186.trans (congrArg some (by kernel_rfl))⟩
 f57:=⟨Tryz.f187.name,by decide,Tryz.func187.trans (congrArg some (by kernel_rfl))⟩
 t0:=Tryz.underlying0
 a0:=Tryz.isAgg0
 z0:=Tryz.sizeOf0
 v0:=Tryz.zeroValue0
 t3:=Tryz.underlying3
 a3:=Tryz.isAgg3
 z3:=Tryz.sizeOf3
 v3:=Tryz.zeroValue3
 t4:=Tryz.underlying4
 a4:=Tryz.isAgg4
 z4:=Tryz.sizeOf4
 v4:=Tryz.zeroValue4
 t5:=Tryz.underlying5
 a5:=Tryz.isAgg5
 z5:=Tryz.sizeOf5
 v5:=Tryz.zeroValue5
 t9:=Tryz.underlying9
 a9:=Tryz.isAgg9
 z9:=Tryz.sizeOf9
 v9:=Tryz.zeroValue9
 t22:=Tryz.underlying40
 a22:=Tryz.isAgg40
 z22:=Tryz.sizeOf40
 v22:=Tryz.zeroValue40
 t25:=Tryz.underlying192
 a25:=Tryz.isAgg192
 z25:=Tryz.sizeOf192
 v25:=Tryz.zeroValue192
 t39:=Tryz.underlying168
 a39:=Tryz.isAgg168
 z39:=Tryz.sizeOf168
 v39:=Tryz.zeroValue168
 t45:=Tryz.underlying206
 a45:=Tryz.isAgg206
 z45:=Tryz.sizeOf206
 v45:=Tryz.zeroValue206
 t46:=Tryz.underlying207
 a46:=Tryz.isAgg207
 z46:=Tryz.sizeOf207
 v46:=Tryz.zeroValue207
 t50:=Tryz.underlying211
 a50:=Tryz.isAgg211
 z50:=Tryz.sizeOf211
 v50:=Tryz.zeroValue211
 t53:=Tryz.underlying166
 a53:=Tryz.isAgg166
 z53:=Tryz.sizeOf166
 v53:=Tryz.zeroValue166
 t55:=Tryz.underlying148
 a55:=Tryz.isAgg148
 z55:=Tryz.sizeOf148
 v55:=Tryz.zeroValue148
 t66:=Tryz.underlying213
 a66:=Tryz.isAgg213
 z66:=Tryz.sizeOf213
 v66:=Tryz.zeroValue213
 t70:=Tryz.underlying156
 a70:=Tryz.isAgg156
 z70:=Tryz.sizeOf156
 v70:=Tryz.zeroValue156
 t76:=Tryz.underlying218
 a76:=Tryz.isAgg218
 z76:=Tryz.sizeOf218
 v76:=Tryz.zeroValue218
 t77:=Tryz.underlying99
 a77:=Tryz.isAgg99
 z77:=Tryz.sizeOf99
 v77:=Tryz.zeroValue99 }
def Ns:Go.Shelf.Ren:=⟨fun | 171=>56 | 243=>81 | 246=>104 | 283=>119 | 284=>120 | 285=>121 | 286=>122 | 129=>137 | 317=>136 | 318=>138 | 319=>139 | 320=>140 | 337=>151 | 338=>152 | n=>n,fun | 3=>3 | 9=>9 | 2=>2 | 4=>4 | 171=>147 | 0=>0 | 53=>148 | 37=>59 | 5=>5 | 173=>151 | 212=>165 | 51=>166 | 20=>20 | 213=>167 | 46=>168 | 232=>194 | 233=>195 | n=>n,fun | 17=>2 | 18=>4 | 19=>5 | n=>n⟩
theorem Uw:Go.Proofs.LaysM.n171 Tryz.prog Ns:={
 mixed:=by kernel_rfl
 f129:=Tryz.func137.trans (congrArg some (by kernel_rfl))
 f171:=Tryz.func56.trans (congrArg some (by kernel_rfl))
 f243:=Tryz.func81.trans (congrArg some (by kernel_rfl))
 f246:=Tryz.func104.trans (congrArg some (by kernel_rfl))
 f283:=Tryz.func119.trans (congrArg some (by kernel_rfl))
 f284:=Tryz.func120.trans (congrArg some (by kernel_rfl))
 f285:=Tryz.func121.trans (congrArg some (by kernel_rfl))
 f286:=Tryz.func122.trans (congrArg some (by kernel_rfl))
 f317:=Tryz.func136.trans (congrArg some (by kernel_rfl))
 f318:=Tryz.func138.trans (congrArg some (by kernel_rfl))
 f319:=Tryz.func139.trans (congrArg some (by kernel_rfl))
 f320:=Tryz.func140.trans (congrArg some (by kernel_rfl))
 f337:=Tryz.func151.trans (congrArg some (by kernel_rfl))
 f338:=Tryz.func152.trans (congrArg some (by kernel_rfl))
 t0:=Tryz.underlying0
 a0:=Tryz.isAgg0
 z0:=Tryz.sizeOf0
 v0:=Tryz.zeroValue0
 t2:=Tryz.underlying2
 a2:=Tryz.isAgg2
 z2:=Tryz.sizeOf2
 v2:=Tryz.zeroValue2
 t3:=Tryz.underlying3
 a3:=Tryz.isAgg3
 z3:=Tryz.sizeOf3
 v3:=Tryz.zeroValue3
 t4:=Tryz.underlying4
 a4:=Tryz.isAgg4
 z4:=Tryz.sizeOf4
 v4:=Tryz.zeroValue4
 t5:=Tryz.underlying5
 a5:=Tryz.isAgg5
 z5:=Tryz.sizeOf5
 v5:=Tryz.zeroValue5
 t9:=Tryz.underlying9
 a9:=Tryz.isAgg9
 z9:=Tryz.sizeOf9
 v9:=Tryz.zeroValue9
 t20:=Tryz.underlying20
 a20:=Tryz.isAgg20
 z20:=Tryz.sizeOf20
 v20:=Tryz.zeroValue20
 t37:=Tryz.underlying59
 a37:=Tryz.isAgg59
 z37:=Tryz.sizeOf59
 v37:=Tryz.zeroValue59
 t46:=Tryz.underlying168
 a46:=Tryz.isAgg168
 z46:=Tryz.sizeOf168
 v46:=Tryz.zeroValue168
 t51:=Tryz.underlying166
 a51:=Tryz.isAgg166
 z51:=Tryz.sizeOf166
 v51:=Tryz.zeroValue166
 t53:=Tryz.underlying148
 a53:=Tryz.isAgg148
 z53:=Tryz.sizeOf148
 v53:=Tryz.zeroValue148
 t171:=Tryz.underlying147
 a171:=Tryz.isAgg147
 z171:=Tryz.sizeOf147
 v171:=Tryz.zeroValue147
 t173:=Tryz.underlying151
 a173:=Tryz.isAgg151
 z173:=Tryz.sizeOf151
 v173:=Tryz.zeroValue151
 t212:=Tryz.underlying165
 a212:=Tryz.isAgg165
 z212:=Tryz.sizeOf165
 v212:=Tryz.zeroValue165
 t213:=Tryz.underlying167
 a213:=Tryz.isAgg167
 z213:=Tryz.sizeOf167
 t232:=Tryz.underlying194
 a232:=Tryz.isAgg194
 z232:=Tryz.sizeOf194
 v232:=Tryz.zeroValue194
 t233:=Tryz.underlying195
 a233:=Tryz.isAgg195
 z233:=Tryz.sizeOf195
 v233:=Tryz.zeroValue195
 g17:=by kernel_rfl
 g18:=by kernel_rfl
 g19:=by kernel_rfl
 i0:=by kernel_rfl
 i2:=by kernel_rfl
 i3:=by kernel_rfl
 i4:=by kernel_rfl
 i5:=by kernel_rfl
 i9:=by kernel_rfl
 i20:=by kernel_rfl
 i37:=by kernel_rfl
 i46:=by kernel_rfl
 i51:=by kernel_rfl
 i53:=by kernel_rfl
 i171:=by kernel_rfl
 i173:=by kernel_rfl
 i212:=by kernel_rfl
 i232:=by kernel_rfl
 i233:=by kernel_rfl
 m17:=by kernel_rfl
 m18:=by kernel_rfl
 m19:=by kernel_rfl }
def O5:Go.Shelf.Ren:=⟨fun | 137=>85 | 217=>105 | 266=>123 | n=>n,fun | 9=>9 | 5=>5 | 3=>3 | n=>n,fun | n=>n⟩
theorem V2:Go.Proofs.Lays.n137 Tryz.prog O5:={
 mixed:=by kernel_rfl
 f137:=Tryz.func85.trans (congrArg some (by kernel_rfl))
 f217:=Tryz.func105.trans (congrArg some (by kernel_rfl))
 f266:=Tryz.func123.trans (congrArg some (by kernel_rfl))
 t3:=Tryz.underlying3
 a3:=Tryz.isAgg3
 z3:=Tryz.sizeOf3
 v3:=Tryz.zeroValue3
 t5:=Tryz.underlying5
 a5:=Tryz.isAgg5
 z5:=Tryz.sizeOf5
 v5:=Tryz.zeroValue5
 t9:=Tryz.underlying9
 a9:=Tryz.isAgg9
 z9:=Tryz.sizeOf9
 v9:=Tryz.zeroValue9 }
end Go.Proofs.YthgenmkengbmmaaGreatDoor.AM
namespace Go.Proofs.YthgenmkengbmmaaGreatDoor.AM
open Go Go.Shelf Go.RowKit Go.Lib Go.Sort
theorem xK {α:Type} [Inhabited α] (enc:α→List Value) (k:Nat) (w:World) (blk n:Nat) (d:Array α) (os:Array Go.Obj):HU w (sortWorldK enc k w blk 0 n d os) blk:=by
 refine ⟨fun j hj hlt=>?_,?_,rfl,rfl,rfl,?_⟩
 ·simp only [sortWorldK,grow,putRowK,putRow,mapBlock,Sort.ahead]
  rw [Array.getElem?_append_left (by simpa using hlt),Array.getElem?_modify,if_neg (Ne.symm hj)]
 ·simp [sortWorldK,grow,putRowK,putRow,mapBlock,Sort.ahead]
 ·show w.drawn≤w.drawn + n
  omega
theorem JB {α:Type} [Inhabited α] (enc:α→List Value) (k:Nat) (w:World) (blk n:Nat) (d:Array α) (os:Array Go.Obj) {c:Array Value}{e:TypeId}{t:Nat × Nat} (hb:blk < w.heap.size) (h:w.heap[blk]?=some (.cells c e t))
  (hs:d.size * k≤c.size):∃ c',(sortWorldK enc k w blk 0 n d os).heap[blk]?=some (.cells c' e t)∧c'.size=c.size∧∀ j,j < d.size * k→c'[j]?=some ((enc d[j / k]!)[j % k]!):=by
 refine ⟨putCells id 0 (flatK enc k d) c,?_,by simp [putCells],?_⟩
 ·simp only [sortWorldK,grow,putRowK,putRow,mapBlock,Sort.ahead]
  rw [Array.getElem?_append_left (by simpa using hb),Array.getElem?_modify,if_pos rfl,h]
  rfl
 ·intro j hj
  have hjc:j < c.size:=by omega
  simp only [putCells,Array.getElem?_mapIdx,Array.getElem?_eq_getElem hjc,Option.map_some,size_flatK]
  rw [if_pos ⟨Nat.zero_le _,by omega⟩,Nat.sub_zero,get_flatK _ _ _ _ hj]
  rfl
theorem H3 {α:Type} [Inhabited α] {lt:α→α→Bool}{d:Array α} (h:SortedIn lt 0 d.size d):d.toList.Pairwise (fun x y=>lt y x=false):=by
 rw [List.pairwise_iff_getElem]
 intro i j hi hj hij
 have:=h i j (Nat.zero_le _) hij (by simpa using hj)
 have hi':i < d.size:=by simpa using hi
 have hj':j < d.size:=by simpa using hj
 rw [getElem!_pos d i hi',getElem!_pos d j hj'] at this
 simpa using this
theorem Px {P:Program}{ρ:Ren} (L:SlLaysF0.n6 P ρ) (k:Nat) (aE:∀ w,(isAgg (ρ.t 24)).run P w=.ok true w) (zE:∀ w,(Go.sizeOf (ρ.t 24)).run P w=.ok k w) (g:Nat)
  (eg:∀ args w,(callFunc g args).run P w=.ok (.enter g args) w):E6 P (ρ.f 6) g k false:=by
 intro α _ enc cf blk cap d w hk h1 o1 o2 o3 hcmp hH hblk hsz
 have hO:SWO (ltOf cf):=⟨fun x=>by simpa [ltOf] using o1 x,fun x y z a b=>by simp only [ltOf,decide_eq_true_eq] at *; exact o2 x y z a b,
  fun x y z a b=>by simp only [ltOf,decide_eq_false_iff_not] at *; exact o3 x y z a b⟩
 have hc:CmpLays P g #[] enc k cf blk 0 d.size w:=by
  intro m os dk hs x y
  refine (hcmp _ (xK enc k w blk m dk os) x y).mono ?_
  rintro e w' ⟨h1,q,os',h2⟩
  exact ⟨h1,q,os',h2⟩
 have hh:HoldsK enc k w blk 0 d:=by
  intro j hj
  have hj':j < d.size * k:=by simpa using hj
  obtain ⟨e1,e2⟩:=hH j hj'
  rw [get_flatK _ _ _ _ hj',Nat.zero_add]
  exact ⟨e1,e2⟩
 refine (AnyQ.slices_SortFunc L k aE zE enc hk h1 cf hO g #[] blk 0 cap d w eg hc hh hblk hsz).mono ?_
 rintro e w' ⟨rfl,d',n,os,hp,hs,rfl⟩
 have hsz':d'.size=d.size:=hp.1
 refine ⟨rfl,xK enc k w blk n d' os,d',?_,?_,?_⟩
 ·have:=hp.2.2
  have e1:d'.extract 0 d.size=d':=by rw [← hsz']; exact Array.extract_size
  have e2:d.extract 0 d.size=d:=Array.extract_size
  rw [e1,e2] at this
  exact this
 ·rw [← hsz'] at hs
  refine (H3 hs).imp ?_
  intro x y h
  simpa [ltOf] using h
 ·intro c e t hct
  have hle:d'.size * k≤c.size:=by
   rw [hsz']
   rcases Nat.eq_zero_or_pos (d.size * k) with h0 | h0
   ·omega
   ·obtain ⟨e1,_⟩:=hH (d.size * k - 1) (by omega)
    rw [sP hct] at e1
    rcases Nat.lt_or_ge (d.size * k - 1) c.size with h | h
    ·omega
    ·rw [Array.getElem?_eq_none h] at e1; cases e1
  have:=JB enc k w blk n d' os hblk hct hle
  rw [hsz'] at this
  exact this
end Go.Proofs.YthgenmkengbmmaaGreatDoor.AM
namespace Go.Proofs.YthgenmkengbmmaaGreatDoor.AM
open Go Go.Shelf Go.RowKit Go.Proofs
theorem O4:aU Tryz.prog 157=true:=by kernel_rfl
theorem HE:E6 Tryz.prog 157 158 2 false :=
 Px Oe 2 (Bz (aP (t:=87) rfl)) (dL (aP (t:=87) rfl)) 158 (enters_of Tryz.func158 (by kernel_rfl) rfl)
theorem F8:Gt Tryz.prog 157 158:=fun a cap w=>AnyF.slices_SortFunc_none Oe a cap _ w
end Go.Proofs.YthgenmkengbmmaaGreatDoor.AM
