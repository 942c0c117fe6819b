/- Bd -/
import Derived.Test.YthgenmkengbmmaaGreatDoorX1
import Derived.Test.YthgenmkengbmmaaGreatDoorProg
import Derived.Lib.Builder
import Derived.Lib.UnsafeStr
import Derived.Laws.Externs
import Derived.Shelf.RegionOpenPlain
set_option linter.all false
namespace Go.Proofs.YthgenmkengbmmaaGreatDoor.AM
open Go Go.RowKit Go.Proofs Go.Lib
theorem Pj {G:aK}{objs:List Obj}{w:World} (hm:Mem G objs w) {k e:Nat}{buf:AV} (ho:objs[k]?=some (.bld e buf)) {v:Value} (hv:aO G w (.ptr k 0) v) :
  ∃ b c0 c1,v=.pointer (some ⟨b,0,none⟩)∧G.bl[k]?=some (.obj b)∧w.heap[b]?=some (.cells #[c0,c1] e (0,0))∧(c0=.pointer none ∨ c0=.pointer (some ⟨b,0,none⟩))∧c1.oneCell'=true∧aO G w buf c1∧∀ off,¬ G.imm b off:=by
 obtain ⟨g,hg,b,c0,c1,rfl,h1,h2,h3,h4,h5⟩:=hm.obj ho
 cases hv with
 | ptr _ _ b' hb'=>rw [hg] at hb'; cases hb'; exact ⟨b,c0,c1,rfl,hg,h1,h2,h3,h4,h5⟩
theorem vZ {w:World}{b:Nat}{c:Array Value}{e:Nat}{fr:Nat × Nat} (h:w.heap[b]?=some (.cells c e fr)) (off:Nat) (v:Value):(w.setCell ⟨b,off,none⟩ v).heap[b]?=some (.cells (c.setIfInBounds off v) e fr):=by
 simp [World.setCell,Array.getElem?_modify,h]
theorem C5 {w:World}{b j:Nat} (h:b ≠ j) (off:Nat) (v:Value):(w.setCell ⟨b,off,none⟩ v).heap[j]?=w.heap[j]?:=by
 simp [World.setCell,Array.getElem?_modify,h]
set_option maxHeartbeats 2000000 in
set_option maxRecDepth 100000 in
theorem S9 (b:Nat) (w:World) (h0:w.cell? ⟨b,0,none⟩=some (.pointer (some ⟨b,0,none⟩))) :
  Calls Tryz.prog 55 #[.pointer (some ⟨b,0,none⟩)] w fun e w'=>e=.returned (.tuple #[])∧w'=w:=by
 have u61:=run_underlying Tryz.underlying61; have u58:=run_underlying Tryz.underlying58; have u9:=run_underlying Tryz.underlying9; have u118:=run_underlying Tryz.underlying118
 have a61:=Tryz.isAgg61; have a58:=Tryz.isAgg58
 go_enter Tryz.func55,Tryz.ntmps55
 go_wp2
 rw [Lib.run_neq_ptr_same (P:=Tryz.prog) w _ Tryz.underlying58 (j:=(Tryz.prog.info? 61).get!) (by kernel_rfl)]
 go_wp2
 go_end0
 exact ⟨rfl,rfl⟩
set_option maxHeartbeats 2000000 in
set_option maxRecDepth 100000 in
theorem RJ (b:Nat) (w:World) (h0:w.cell? ⟨b,0,none⟩=some (.pointer none)) (hsh:w.shape? b=some (61,2)) (hfz:w.frozen? ⟨b,0,none⟩=false) :
  Calls Tryz.prog 55 #[.pointer (some ⟨b,0,none⟩)] w fun e w'=>e=.returned (.tuple #[])∧w'=w.setCell ⟨b,0,none⟩ (.pointer (some ⟨b,0,none⟩)):=by
 have u61:=run_underlying Tryz.underlying61; have u58:=run_underlying Tryz.underlying58; have u9:=run_underlying Tryz.underlying9; have u118:=run_underlying Tryz.underlying118
 have a61:=Tryz.isAgg61; have a58:=Tryz.isAgg58
 go_enter Tryz.func55,Tryz.ntmps55
 go_wp2
 rw [Lib.run_to_unsafe (P:=Tryz.prog) w ⟨b,0,none⟩ Tryz.underlying58 Tryz.underlying118 (j:=(Tryz.prog.info? 61).get!) (by kernel_rfl) (by decide +kernel) hsh (Nat.zero_lt_succ 1)]
 simp only [Result.andThen]
 rw [Oper.upon_value]
 go_wp2
 rw [run_callFunc_extern Tryz.func80 (by kernel_rfl) (by kernel_rfl) (by kernel_rfl) (e:=Extern.AbiNoEscape.same) (by kernel_rfl)]
 rw [Lib.run_noEscape]
 simp only [Result.andThen]
 rw [Oper.upon_value]
 go_wp2
 rw [Lib.run_from_unsafe (P:=Tryz.prog) w ⟨b,0,none⟩ Tryz.underlying118 Tryz.underlying58 (j:=(Tryz.prog.info? 61).get!) (by kernel_rfl) hsh (by kernel_rfl)]
 simp only [Result.andThen]
 rw [Oper.upon_value]
 go_wp2
 go_end0
 exact ⟨rfl,rfl⟩
theorem Ke {w:World}{b:Nat}{c:Array Value}{e:Nat}{fr:Nat × Nat} (h:w.heap[b]?=some (.cells c e fr)) (off:Nat) (v:Value):EU w (w.setCell ⟨b,off,none⟩ v) b (.cells (c.setIfInBounds off v) e fr) :=
 ⟨vZ h off v,fun j hj=>C5 hj off v,by simp [World.setCell],rfl,rfl,⟨rfl,Nat.le_refl _⟩⟩
theorem IH {buf:AV}{rest:List Obj}:cW Tryz.prog 55 [.ptr 0 0] (.bld 61 buf :: rest) (.tup []) (.bld 61 buf :: rest):=by
 intro G w vs hm hc
 have hv:=hc.2 0 (.ptr 0 0) (vs.getD 0 default) rfl (by have:=hc.1; match vs,this with | [v],_=>rfl)
 obtain ⟨b,c0,c1,he,hg,hh,h0,h1,h2,h3⟩:=Pj hm (k:=0) rfl hv
 have hvs:vs=[.pointer (some ⟨b,0,none⟩)]:=by
  have:=hc.1
  match vs,this with
  | [v],_=>simpa using he
 subst hvs
 have c0':w.cell? ⟨b,0,none⟩=some c0:=by rw [gF hh]; rfl
 rcases h0 with rfl | rfl
 ·refine (RJ b w c0' (by simp [World.shape?,hh]) (by simp [World.frozen?,hh])).mono ?_
  rintro e w' ⟨rfl,rfl⟩
  obtain ⟨s1,s2⟩:=(Ke hh 0 (.pointer (some ⟨b,0,none⟩))).step hm (by simp) hg h3
  have hm':=s2 (.bld 61 buf) ⟨b,.pointer (some ⟨b,0,none⟩),c1,rfl,by rw [vZ hh]; rfl,.inr rfl,h1,h2.mono s1.ext,h3⟩
  exact ⟨_,_,G,⟨rfl,rfl⟩,hm',s1,.tup [] [] rfl (fun i c v h=>by simp at h)⟩
 ·refine (S9 b w c0').mono ?_
  rintro e w' ⟨rfl,rfl⟩
  exact ⟨_,_,G,⟨rfl,rfl⟩,hm,bG.refl G w',.tup [] [] rfl (fun i c v h=>by simp at h)⟩
set_option maxHeartbeats 2000000 in
set_option maxRecDepth 100000 in
theorem SZ (b g cap cells:Nat) (c0:Value) (l:List UInt8) (w:World) (hbk:w.heap[b]?=some (.cells #[c0,.slice (some ⟨g,0,none⟩) l.length cap] 61 (0,0))) (h0:l ≠ []) (hc:cap ≠ 0) (hsh:w.shape? g=some (5,cells)) (hn:l.length≤cells) (h63:l.length≤9223372036854775807)
  (hcell:∀ j x,l[j]?=some x→w.cell? ((⟨g,0,none⟩:Addr).add j)=some (.int .u8 x.toNat)) :
  Calls Tryz.prog 34 #[.pointer (some ⟨b,0,none⟩)] w fun e w'=>e=.returned (.string ⟨l.toArray⟩)∧w'=w.drew.freeze ⟨g,0,none⟩ l.length:=by
 have c1:w.drew.cell? ⟨b,1,none⟩=some (.slice (some ⟨g,0,none⟩) l.length cap):=by
  have:w.drew.heap[b]?=some (.cells #[c0,.slice (some ⟨g,0,none⟩) l.length cap] 61 (0,0)):=hbk
  rw [gF this]; rfl
 have hSD:(Builtin.unsafeSliceData_ #[59] 97 #[.slice (some ⟨g,0,none⟩) l.length cap]).run Tryz.prog w.drew=.ok (.pointer (some ⟨g,0,none⟩)) w.drew :=
  Lib.run_unsafeSliceData_row _ _ _ _ _ _ hc
 have hUS:(Builtin.unsafeString_ #[97,3] 9 #[.pointer (some ⟨g,0,none⟩),.int .i64 l.length]).run Tryz.prog w.drew=.ok (.string ⟨l.toArray⟩) (w.drew.freeze ⟨g,0,none⟩ l.length) :=
  Lib.run_unsafeString_row w.drew 97 3 9 5 Tryz.underlying97 (by kernel_rfl) g cells hsh l h0 hn h63 hcell
 have mixed:Tryz.prog.follows .mixedOrders=true:=by kernel_rfl
 have u61:=run_underlying Tryz.underlying61; have u58:=run_underlying Tryz.underlying58; have u9:=run_underlying Tryz.underlying9; have u59:=run_underlying Tryz.underlying59; have u97:=run_underlying Tryz.underlying97; have u3:=run_underlying Tryz.underlying3; have u5:=run_underlying Tryz.underlying5
 have a61:=Tryz.isAgg61; have a58:=Tryz.isAgg58; have a59:=Tryz.isAgg59; have z59:=Tryz.sizeOf59; have z58:=Tryz.sizeOf58; have z61:=Tryz.sizeOf61
 clear hcell hsh hn h63 hbk h0 hc
 go_enter Tryz.func34,Tryz.ntmps34
 go_wp2
 go_region_o
 all_goals (go_wp2; go_ret; exact ⟨rfl,rfl⟩)
set_option maxHeartbeats 2000000 in
set_option maxRecDepth 100000 in
theorem QC (b cap:Nat) (c0:Value) (w:World) (hbk:w.heap[b]?=some (.cells #[c0,.slice none 0 cap] 61 (0,0))) :
  Calls Tryz.prog 34 #[.pointer (some ⟨b,0,none⟩)] w fun e w'=>e=.returned (.string ⟨#[]⟩)∧w'=w.drew:=by
 have hUS:∀ (W:World) (q:Option Addr),(Builtin.unsafeString_ #[97,3] 9 #[.pointer q,.int .i64 0]).run Tryz.prog W=.ok (.string .empty) W:=fun W q=>Lib.run_unsafeString_none W _ _ _ q
 have c1:w.drew.cell? ⟨b,1,none⟩=some (.slice none 0 cap):=by
  have:w.drew.heap[b]?=some (.cells #[c0,.slice none 0 cap] 61 (0,0)):=hbk
  rw [gF this]; rfl
 have hSD:(Builtin.unsafeSliceData_ #[59] 97 #[.slice none 0 cap]).run Tryz.prog w.drew=.ok (.pointer none) w.drew:=rfl
 have mixed:Tryz.prog.follows .mixedOrders=true:=by kernel_rfl
 have u61:=run_underlying Tryz.underlying61; have u58:=run_underlying Tryz.underlying58; have u9:=run_underlying Tryz.underlying9; have u59:=run_underlying Tryz.underlying59; have u97:=run_underlying Tryz.underlying97; have u3:=run_underlying Tryz.underlying3; have u5:=run_underlying Tryz.underlying5
 have a61:=Tryz.isAgg61; have a58:=Tryz.isAgg58; have a59:=Tryz.isAgg59; have z59:=Tryz.sizeOf59; have z58:=Tryz.sizeOf58; have z61:=Tryz.sizeOf61
 go_enter Tryz.func34,Tryz.ntmps34
 go_wp2
 go_region_o
 all_goals (go_wp2; go_ret; exact ⟨rfl,rfl⟩)
set_option maxHeartbeats 2000000 in
set_option maxRecDepth 100000 in
theorem QG (b cap:Nat) (g:Addr) (c0:Value) (w:World) (hc:cap ≠ 0) (hbk:w.heap[b]?=some (.cells #[c0,.slice (some g) 0 cap] 61 (0,0))) :
  Calls Tryz.prog 34 #[.pointer (some ⟨b,0,none⟩)] w fun e w'=>e=.returned (.string ⟨#[]⟩)∧w'=w.drew:=by
 have hUS:∀ (W:World) (q:Option Addr),(Builtin.unsafeString_ #[97,3] 9 #[.pointer q,.int .i64 0]).run Tryz.prog W=.ok (.string .empty) W:=fun W q=>Lib.run_unsafeString_none W _ _ _ q
 have c1:w.drew.cell? ⟨b,1,none⟩=some (.slice (some g) 0 cap):=by
  have:w.drew.heap[b]?=some (.cells #[c0,.slice (some g) 0 cap] 61 (0,0)):=hbk
  rw [gF this]; rfl
 have hSD:(Builtin.unsafeSliceData_ #[59] 97 #[.slice (some g) 0 cap]).run Tryz.prog w.drew=.ok (.pointer (some g)) w.drew:=Lib.run_unsafeSliceData_row _ _ _ _ _ _ hc
 clear hc
 have mixed:Tryz.prog.follows .mixedOrders=true:=by kernel_rfl
 have u61:=run_underlying Tryz.underlying61; have u58:=run_underlying Tryz.underlying58; have u9:=run_underlying Tryz.underlying9; have u59:=run_underlying Tryz.underlying59; have u97:=run_underlying Tryz.underlying97; have u3:=run_underlying Tryz.underlying3; have u5:=run_underlying Tryz.underlying5
 have a61:=Tryz.isAgg61; have a58:=Tryz.isAgg58; have a59:=Tryz.isAgg59; have z59:=Tryz.sizeOf59; have z58:=Tryz.sizeOf58; have z61:=Tryz.sizeOf61
 go_enter Tryz.func34,Tryz.ntmps34
 go_wp2
 go_region_o
 all_goals (go_wp2; go_ret; exact ⟨rfl,rfl⟩)
set_option maxHeartbeats 2000000 in
set_option maxRecDepth 100000 in
theorem Rx (b:Nat) (g:Addr) (sh:TypeId × Nat) (c0:Value) (w:World) (hlt:b < w.heap.size) (hsh:w.shape? g.block=some sh) (hbk:w.heap[b]?=some (.cells #[c0,.slice (some g) 0 0] 61 (0,0))) :
  Calls Tryz.prog 34 #[.pointer (some ⟨b,0,none⟩)] w fun e w'=>e=.returned (.string ⟨#[]⟩)∧w'=w.drew.alloc (.view g 5):=by
 have hUS:∀ (W:World) (q:Option Addr),(Builtin.unsafeString_ #[97,3] 9 #[.pointer q,.int .i64 0]).run Tryz.prog W=.ok (.string .empty) W:=fun W q=>Lib.run_unsafeString_none W _ _ _ q
 have c1:w.drew.cell? ⟨b,1,none⟩=some (.slice (some g) 0 0):=by
  have:w.drew.heap[b]?=some (.cells #[c0,.slice (some g) 0 0] 61 (0,0)):=hbk
  rw [gF this]; rfl
 have hSD:(Builtin.unsafeSliceData_ #[59] 97 #[.slice (some g) 0 0]).run Tryz.prog w.drew=.ok (.pointer (some ⟨w.drew.heap.size,0,none⟩)) (w.drew.alloc (.view g 5)):=Lib.run_unsafeSliceData_zero w.drew _ _ 5 Tryz.underlying97 g 0 sh hsh
 have c2:(w.drew.alloc (.view g 5)).cell? ⟨b,1,none⟩=some (.slice (some g) 0 0):=by
  have:(w.drew.alloc (.view g 5)).heap[b]?=_:=(p9 w.drew _ b hlt).trans hbk
  rw [gF this]; rfl
 have c3:(w.alloc (.view g 5)).drew.cell? ⟨b,1,none⟩=some (.slice (some g) 0 0):=c2
 have c4:w.cell? ⟨b,1,none⟩=some (.slice (some g) 0 0):=c1
 have mixed:Tryz.prog.follows .mixedOrders=true:=by kernel_rfl
 have u61:=run_underlying Tryz.underlying61; have u58:=run_underlying Tryz.underlying58; have u9:=run_underlying Tryz.underlying9; have u59:=run_underlying Tryz.underlying59; have u97:=run_underlying Tryz.underlying97; have u3:=run_underlying Tryz.underlying3; have u5:=run_underlying Tryz.underlying5
 have a61:=Tryz.isAgg61; have a58:=Tryz.isAgg58; have a59:=Tryz.isAgg59; have z59:=Tryz.sizeOf59; have z58:=Tryz.sizeOf58; have z61:=Tryz.sizeOf61
 go_enter Tryz.func34,Tryz.ntmps34
 go_wp2
 go_region_o
 all_goals (go_wp2; go_ret; exact ⟨rfl,rfl⟩)
theorem Mem.leOb' {G:aK}{objs objs':List Obj}{w:World} (hm:Mem G objs w) (hl:objs'.length=objs.length) (hle:leOb objs objs'):Mem G objs' w:=by
 refine ⟨by rw [hm.len,hl],fun o x g hx hg=>?_,hm.inj,hm.lt,hm.immLt⟩
 have hol:o < objs.length:=by rw [← hl]; exact (List.getElem?_eq_some_iff.1 hx).1
 exact E0 ((xF hle).2 o _ x (List.getElem?_eq_getElem hol) hx) (hm.ok o _ g (List.getElem?_eq_getElem hol) hg)
theorem Qo {G:aK}{w w':World} (hm:Mem G [.dead,.dead] w) (hcell:∀ b o,b < w.heap.size→w'.cell? ⟨b,o,none⟩=w.cell? ⟨b,o,none⟩)
  (hheap:∀ k,k < w.heap.size→(∀ (o:Nat) (g:GB),G.bl[o]?=some g→g.blk ≠ some k)→w'.heap[k]?=w.heap[k]?) (hsize:w.heap.size≤w'.heap.size) (hos:w'.os=w.os) (htape:w'.tape=w.tape) (hout:w'.output=w.output∧w.drawn≤w'.drawn) :
  bG G w G w'∧Mem G [.dead,.dead] w':=by
 refine ⟨⟨⟨fun t b o hi=>hcell b o (hm.imLt t b o hi),fun _ _ _ h=>h,fun _ _ h=>h,fun _ _ h=>.inl h,fun _ b l c sz ex h=>⟨b,l,c,sz,ex,h,.inr ⟨rfl,rfl,rfl⟩⟩⟩,hheap,hsize,hos,htape,hout,fun _ _ h=>.inl h,fun o g b hg hb=>.inr ⟨o,g,hg,hb⟩⟩,?_⟩
 refine ⟨hm.len,fun o x g hx hg=>?_,hm.inj,fun o g b h1 h2=>Nat.lt_of_lt_of_le (hm.lt o g b h1 h2) hsize,fun b off h=>Nat.lt_of_lt_of_le (hm.immLt.1 b off h) hsize,hm.immLt.2.mono (fun b o hi=>hcell b o (hm.immLt.1 b o hi)) (fun _ _ h=>h)⟩
 have:=hm.ok o x g hx hg
 match o,hx with
 | 0,hx=>simp at hx; subst hx; exact this
 | 1,hx=>simp at hx; subst hx; exact this
 | n + 2,hx=>simp at hx
theorem Mr (w:World) (p:Addr) (n b o:Nat):(w.freeze p n).cell? ⟨b,o,none⟩=w.cell? ⟨b,o,none⟩:=by
 unfold World.freeze
 split
 ·rfl
 ·by_cases hb:p.block=b
  ·subst hb
   cases hh:w.heap[p.block]? with
   | none=>simp [World.cell?,Array.getElem?_modify,hh]
   | some ob=>cases ob <;> simp [World.cell?,Array.getElem?_modify,hh]
  ·simp [World.cell?,Array.getElem?_modify,hb]
theorem LA {l:List Int}{r:Unit} (_:ES l=some r):cW Tryz.prog 55 [.ptr 0 0] [.bld 61 (so 1 (cK .u8) l),tk l.length 1 5] (.tup []) [.bld 61 (so 1 (cK .u8) l),tk l.length 1 5]:=IH
theorem Oa {l:List Int}{r:Str} (hr:Dj l=some r):cW Tryz.prog 34 [.ptr 0 0] [.bld 61 (so 1 (cK .u8) l),.tok l.length 1 5 true] (vS r) [.dead,.dead]:=by
 unfold Dj gdM at hr
 split at hr
 ·rename_i hl
  cases hr
  intro G w vs hm hc
  have hv:=hc.2 0 (.ptr 0 0) (vs.getD 0 default) rfl (by have:=hc.1; match vs,this with | [v],_=>rfl)
  obtain ⟨b,c0,c1,he,hg,hh,h0,h1,h2,h3⟩:=Pj hm (k:=0) rfl hv
  have hvs:vs=[.pointer (some ⟨b,0,none⟩)]:=by
   have:=hc.1
   match vs,this with
   | [v],_=>simpa using he
  subst hvs
  have hbw:b < w.heap.size:=hm.lt 0 _ b hg rfl
  obtain ⟨G',k1,k2,_⟩:=Al hm 1
  have hm2:Mem G' [.dead,.dead] w:=Mem.leOb' k2 rfl ⟨trivial,rfl,trivial⟩
  have fin:∀ w':World,(∀ b o,b < w.heap.size→w'.cell? ⟨b,o,none⟩=w.cell? ⟨b,o,none⟩)→(∀ k,k < w.heap.size→(∀ (o:Nat) (g:GB),G'.bl[o]?=some g→g.blk ≠ some k)→w'.heap[k]?=w.heap[k]?)→w.heap.size≤w'.heap.size→w'.os=w.os→w'.tape=w.tape→(w'.output=w.output∧w.drawn≤w'.drawn) →
    ∃ ae objs' G2,(ae=fK.ret (vS (d7 l))∧objs'=[Obj.dead,.dead])∧Mem G2 objs' w'∧bG G w G2 w'∧tZ G2 w' ae (.returned (.string ⟨(d7 l).toArray⟩)):=by
   intro w' q1 q2 q3 q4 q5 q6
   obtain ⟨s1,s2⟩:=Qo hm2 q1 q2 q3 q4 q5 q6
   exact ⟨_,_,G',⟨rfl,rfl⟩,s2,k1.trans s1,.v _ rfl⟩
  have h2':aO G w (.sl (l.map (cK .u8)) (.own 1)) c1:=h2
  cases h2' with
  | sl _ _ _ hs ht=>
   obtain ⟨gt,hgt,hot⟩:=hm.obj (o:=1) (x:=.tok l.length 1 5 true) rfl
   by_cases hne:l=[]
   ·subst hne
    have hempty:(.string ⟨#[]⟩:Value)=.string ⟨(d7 []).toArray⟩:=rfl
    rw [hempty] at *
    obtain ⟨a,c,rfl,_,hcm,_⟩:=hs
    have key:(a=none) ∨ (∃ g,a=some g∧(c ≠ 0 ∨ ∃ sh,w.shape? g.block=some sh)):=by
     rcases ht with ⟨l',q1,q2,q3⟩ | ⟨b1,l',cap,sz,ex,q1,q2,q3⟩
     ·rw [hgt] at q1; cases q1
      rcases hot with ⟨e1,e2⟩ | ⟨_,_,_,e1,_⟩
      ·cases e1
       obtain ⟨a',e3,e4⟩:=q3 rfl
       cases e3
       exact .inl (e4 rfl)
      ·cases e1
     ·rw [hgt] at q1; cases q1
      rcases hot with ⟨e1,e2⟩ | ⟨b2,cap2,cur,e1,e2,_⟩
      ·cases e1
      ·cases e1
       have:=q3 rfl
       cases this
       exact .inr ⟨_,rfl,.inr ⟨(5,cur.size),by simp [World.shape?,e2]⟩⟩
    have hdrew:∃ ae objs' G2,(ae=fK.ret (vS (d7 []))∧objs'=[Obj.dead,.dead])∧Mem G2 objs' w.drew∧bG G w G2 w.drew∧tZ G2 w.drew ae (.returned (.string ⟨(d7 []).toArray⟩)) :=
     fin w.drew (fun _ _ _=>rfl) (fun _ _ _=>rfl) (Nat.le_refl _) rfl rfl ⟨rfl,Nat.le_succ _⟩
    rcases key with rfl | ⟨g,rfl,hc0⟩
    ·refine (QC b c c0 w hh).mono ?_
     rintro e w' ⟨rfl,rfl⟩
     exact hdrew
    ·by_cases hcz:c=0
     ·subst hcz
      rcases hc0 with hc0 | ⟨sh,hsh⟩
      ·exact absurd rfl hc0
      ·refine (Rx b g sh c0 w hbw hsh hh).mono ?_
       rintro e w' ⟨rfl,rfl⟩
       exact fin _ (fun b o hb=>eF (p9 w.drew _ b hb) o) (fun k hk _=>p9 w.drew _ k hk) (by simp) rfl rfl ⟨rfl,Nat.le_succ _⟩
     ·refine (QG b c g c0 w hcz hh).mono ?_
      rintro e w' ⟨rfl,rfl⟩
      exact hdrew
   ·have hlen:0 < l.length:=List.length_pos_iff.2 hne
    rcases ht with ⟨l',q1,q2,q3⟩ | ⟨b1,l',cap,sz,ex,q1,q2,q3⟩
    ·exfalso
     rw [hgt] at q1; cases q1
     rcases hot with ⟨e1,e2⟩ | ⟨_,_,_,e1,_⟩
     ·cases e1; have:=e2 rfl; omega
     ·cases e1
    ·rw [hgt] at q1; cases q1
     rcases hot with ⟨e1,_⟩ | ⟨b2,cap2,cur,e1,e2,e3,e4,e5,_⟩
     ·cases e1
     ·cases e1
      have hc1:=q3 (by simp)
      subst hc1
      obtain ⟨a,c,hac,_,_,hor⟩:=hs
      simp only [List.length_map] at hac
      cases hac
      rcases hor with h | ⟨b',st,sz',ha,hra⟩
      ·simp at h; exact absurd h hne
      ·cases ha
       have hsz:sz'=1:=by
        have:=hra.1 0 (cK .u8 (l.getD 0 0)) (by simp [List.getD_eq_getElem?_getD,List.getElem?_eq_getElem hlen])
        rw [← this]; rfl
       subst hsz
       have hll:(d7 l).length=l.length:=by simp [d7]
       have hcells:∀ (j:Nat) (x:UInt8),(d7 l)[j]?=some x→w.cell? ((⟨b1,0,none⟩:Addr).add j)=some (.int .u8 x.toNat):=by
        intro j x hx
        simp only [d7,List.getElem?_map,Option.map_eq_some_iff] at hx
        obtain ⟨y,hy,rfl⟩:=hx
        obtain ⟨u,hu,_,hd⟩:=hra.2 j 0 (cK .u8 y) (.v (.int .u8 y)) (by rw [List.getElem?_map,hy]; rfl) rfl
        cases hd
        have hy2:=hl y (List.mem_of_getElem? hy)
        rw [Addr.add_lit]
        rw [show 0 + j * 1 + 0=0 + j from by omega] at hu
        rw [hu]
        simp [UInt8.toNat_ofNat,Nat.mod_eq_of_lt (show y.toNat < 256 from by omega)]
        omega
       refine (SZ b b1 cap cur.size c0 (d7 l) w (by rw [hll]; exact hh) (by intro h; apply hne; simpa [d7] using h) (by omega) (by simp [World.shape?,e2]) (by rw [hll]; omega) (by rw [hll]; simp only [maxLen] at e5; omega) hcells).mono ?_
       rintro e w' ⟨rfl,rfl⟩
       refine fin _ (fun b o _=>(Mr w.drew _ _ b o)) ?_ ?_ ?_ ?_ ?_
       ·intro k hk hno
        obtain ⟨b',len',cap',sz',ex',hg',hor'⟩:=k1.ext.tok 1 b1 l.length cap 1 true hgt
        have hok':=k2.ok 1 (.tok l.length 1 5 false) _ rfl hg'
        have hb':b'=b1:=by
         rcases hok' with ⟨e,_⟩ | ⟨b3,cap3,cur3,e,_⟩
         ·cases e
         ·cases e
          rcases hor' with h | h
          ·omega
          ·exact h.1
        subst hb'
        have hkb:b' ≠ k:=fun h=>hno 1 _ hg' (by rw [h]; rfl)
        unfold World.freeze
        split
        ·rfl
        ·show (Array.modify w.drew.heap b' _)[k]?=w.heap[k]?
         rw [Array.getElem?_modify,if_neg hkb]; rfl
       ·unfold World.freeze; split <;> simp
       ·unfold World.freeze; split <;> rfl
       ·unfold World.freeze; split <;> rfl
       ·unfold World.freeze; split <;> exact ⟨rfl,Nat.le_succ _⟩
 ·cases hr
end Go.Proofs.YthgenmkengbmmaaGreatDoor.AM
