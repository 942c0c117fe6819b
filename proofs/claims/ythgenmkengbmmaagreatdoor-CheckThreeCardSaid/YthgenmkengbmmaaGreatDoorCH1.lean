/- H1 -/
import Derived.Test.YthgenmkengbmmaaGreatDoorCX2
import Derived.Shelf.Strconv.Itoa3
import Derived.Lib.AppendIntMem
import Derived.Test.YthgenmkengbmmaaGreatDoorCSo
set_option linter.all false
namespace Go.Proofs.YthgenmkengbmmaaGreatDoor.AM
open Go Go.Shelf Go.Proofs
open Go.Sort (grow)
theorem Yo {w:World}{imm:Nat→Nat→Prop} (h:uU imm w) {g:Nat}{k:IntKind}{zs:List Int}{name:String}{P:Program} (hne:zs ≠ []) (hg:P.globalNamed name=some g) (he:(g,1,zs.map fun z=>[D.v (.int k z)]) ∈ D7):Lib.TabIs P w name k zs:=by
 obtain ⟨h1,_,h3⟩:=h _ he
 simp only [List.length_map,Nat.mul_one] at h3
 have hat:∀ i (hi:i < zs.length),w.cell? ⟨g,i,none⟩=some (.int k zs[i]):=fun i hi=>by
  obtain ⟨x,hx,_,hd⟩:=h1.2 i 0 [.v (.int k zs[i])] (.v (.int k zs[i])) (by simp [hi]) rfl
  cases hd
  simpa using hx
 obtain ⟨cs,t,v,hh⟩:∃ cs t v,w.heap[g]?=some (.cells cs t v):=by
  have h0:=hat 0 (List.length_pos_iff.2 hne)
  unfold World.cell? at h0
  split at h0
  ·rename_i cs t v hh; exact ⟨_,_,_,hh⟩
  ·cases h0
 have hc:∀ i,w.cell? ⟨g,i,none⟩=cs[i]?:=fun i=>by simp [World.cell?,hh]
 unfold Lib.TabIs World.var?
 rw [hg]
 simp only [Option.bind_some,hh,Option.some.injEq]
 rw [hc] at h3
 have hs:cs.size≤zs.length:=by simpa using h3
 apply Array.ext_getElem?
 intro i
 rcases Nat.lt_or_ge i zs.length with hi | hi
 ·rw [← hc,hat i hi]
  simp [hi]
 ·rw [Array.getElem?_eq_none (by omega),Array.getElem?_eq_none (by simp; omega)]
theorem zS {n:Int}{r:Str} (h:strconv_Itoa n=some r):Fun Tryz.prog 56 [vI n] (vS r) []:=by
 obtain ⟨h0,h1⟩:-9223372036854775808≤n∧n≤9223372036854775807:=by
  unfold strconv_Itoa gdM at h
  split at h
  ·assumption
  ·cases h
 have hr:r=Lib.itoa n:=by
  unfold strconv_Itoa at h
  rw [show gdM _ _=_ from if_pos ⟨h0,h1⟩] at h
  cases h; rfl
 subst hr
 intro G w vs hm hc
 obtain ⟨hl,hc⟩:=hc
 match vs,hl with
 | [a],_=>
  have e1:=r6 (hc 0 _ a rfl rfl)
  subst e1
  refine (Any.strconv_Itoa Uw n h0 h1 w (Yo (g:=2) hm.immLt.2 (by decide) (by kernel_rfl) (by first | exact List.mem_of_getElem? (i:=0) rfl | exact List.mem_of_getElem? (i:=1) rfl | exact List.mem_of_getElem? (i:=2) rfl | exact List.mem_of_getElem? (i:=3) rfl))).mono ?_
  rintro e w' ⟨rfl,k,os,rfl⟩
  have hmore:gP w (grow (w.drewN k) os):=⟨fun b hb=>Lib.heap_grow_old w k os b hb,Lib.size_grow w k os,rfl,rfl,⟨rfl,Nat.le_add_right _ _⟩⟩
  obtain ⟨hst,hm'⟩:=gP.step hm hmore (imm':=G.imm) (fun _ _ h=>h) (fun _ _ h=>.inl h)
  exact ⟨.ret (.v _),[],_,⟨rfl,rfl⟩,hm',hst,.v _ rfl⟩
theorem BS {s:Str}{c:Int}{r:Int} (h:strings_IndexByte s c=some r):Fun Tryz.prog 85 [vS s,.v (.int .u8 c)] (vI r) []:=by
 cases h
 exact Fun.of_calls2 (fun w=>Any.strings_IndexByte V2 (bs s) c w) rfl
end Go.Proofs.YthgenmkengbmmaaGreatDoor.AM
