/- The law CheckThree of the program: for every input it returns the answer true, without a panic, and each argument reads behind the call as it read before. Conditions: those of the given card alone (package variables hold what the program lays into them, and what is handed to the law has the sizes that the card allows). -/
import Derived.Test.YthgenmkengbmmaaGreatDoorCEqCheckThree
import Derived.Test.YthgenmkengbmmaaGreatDoorCSh
import Derived.Test.YthgenmkengbmmaaGreatDoorCards
import Derived.Test.YthgenmkengbmmaaGreatDoorTie
import Derived.SevenTiedAt
import Derived.Lay
import Derived.LaidMore
set_option linter.all false
namespace Go.Proofs.YthgenmkengbmmaaGreatDoor
open Go Go.ChangeShapes Go.WideShapes Go.RowKit Go.Proofs.YthgenmkengbmmaaGreatDoor.AM
set_option maxRecDepth 100000 in
theorem checkThree_args (xs:List AV) (h:sG Tryz.prog 9 Tryz.f12.params.toList xs):Fun Tryz.prog 12 xs (.v (.bool true)) []:=by
 rw [show Tryz.f12.params.toList=[22,22,22,47] from by rw [Tryz.params12]] at h
 obtain ⟨d0,y0,g0,rfl,h0⟩:=h
 obtain ⟨d1,y1,g1,rfl,h1⟩:=h0
 obtain ⟨d2,y2,g2,rfl,h2⟩:=h1
 obtain ⟨d3,y3,g3,rfl,h3⟩:=h2
 cases h3
 obtain ⟨x0,e0,b0⟩:=pS g0
 obtain ⟨x1,e1,b1⟩:=pS g1
 obtain ⟨x2,e2,b2⟩:=pS g2
 obtain ⟨x3,e3,b3⟩:=E8 g3
 rw [e0,e1,e2,e3]
 exact law12_CheckThree_run (law12_CheckThree_eq x0 x1 x2 x3 b0 b1 b2 b3)
set_option maxRecDepth 100000 in
theorem checkThree_lifted (os:Os) (started:os.Started) (H:Type) (enc:TypeId × Value→H) :
  ReturnsInHanded {} Tryz.checked os 12 .any (fun w args=>(Rows.checkThreeSpec.pre enc Tryz.prog Tryz.f12 [] false w args∧laidMetH Tryz.prog Rows.checkThreeRow.laid w)∧sizedMet enc Tryz.prog Tryz.f12 (OpenSpec.ofChange Rows.checkThreeSpec) false w args) (Rows.checkThreeSpec.post enc Tryz.prog Tryz.f12 false true false false):=by
 refine returnsInHanded_of_change_and (C:=Tryz.checked) (X:=fun w _=>laidMetH Tryz.prog Rows.checkThreeRow.laid w) (fun _ _ _ hh h=>h.of_heap hh) DV started (by kernel_rfl) Tryz.func12
  (ChangeSpec.witness_shaped (enc:=enc) (C:=Tryz.checked) (os:=os) (X:=fun w _=>laidMetH Tryz.prog Rows.checkThreeRow.laid w) false (World.laidAll Tryz.prog os Rows.checkThreeRow.laid) #[.slice none 0 0,.slice none 0 0,.slice none 0 0,.agg #[.string ByteArray.empty,.string ByteArray.empty]] 8 (World.laidAll_os _ _ _) (World.shaped_of_ZipB (by kernel_rfl) (by kernel_rfl)) (by kernel_rfl) (by kernel_rfl) (by kernel_rfl)
   (by rw [MakeChecks.laidMetH_plain _ _ _ (by kernel_rfl)]; exact laidMet_laidAll _ (by kernel_rfl) (by kernel_rfl))) ?_
 intro W base args ds gs before hval hW _ hZ hX _
 refine tG (n:=9) (bt:=4) rfl (by kernel_rfl) (C6 rfl) ?_ (by kernel_rfl) B7 (fun xs hxs=>checkThree_args xs hxs) (HD (by rw [MakeChecks.laidMetH_plain _ _ _ (by kernel_rfl)] at hX; exact hX) (List.mem_of_getElem? (i:=4) rfl) (List.mem_of_getElem? (i:=5) rfl) (List.mem_of_getElem? (i:=2) rfl)) hval hW hZ
 intro ds hl
 have hl':ds.length=4:=by rw [hl,Tryz.params12]; rfl
 match ds,hl' with
 | [d0,d1,d2,d3],_=>exact ⟨rfl,rfl,rfl⟩
theorem checkThree_over:Rows.checkThreeRow.holds Tryz.pinned (OpenSpec.ofChange Rows.checkThreeSpec) :=
 OpenClaim.holds_of_wide 12 Tryz.f12 rfl rfl rfl rfl rfl rfl rfl ⟨rfl,rfl,rfl,rfl,rfl⟩ rfl rfl rfl rfl rfl (by kernel_rfl) Tryz.func12 (by kernel_rfl)
  (of_decide_eq_true (by kernel_rfl)) (by unfold Func.isWrapper; first | (rw [if_pos (by decide +kernel)]; kernel_rfl) | (rw [if_neg (by decide +kernel)]; exact ⟨rfl,rfl⟩))
  (fun os started H enc _=>checkThree_lifted os started H enc)
theorem checkThree_card:Rows.CheckThreeCardSaid :=
 Claim7.holds_tied_plain_at .later [] [.data,.data,.data,.data,.data,.data,.pinned] true (true, "13a4eafcb9b74cb7c03109a7fd7efebd02eced52cb2e2b7707f08c7d3c26f4ac") true checkThree_over (fun _ h=>by cases h) (by kernel_rfl) (fun _ h=>by cases h) checkThree_row_tie rfl ⟨rfl,rfl⟩ (by kernel_rfl) rfl
  (fun f fn hf hfn=>by
   obtain rfl:f=12:=Option.some.inj ((show Tryz.prog.funcNamed "watchtower/watchtowerlaw12.CheckThree" = some 12 by kernel_rfl).symm.trans hf) |>.symm
   obtain rfl:fn=Tryz.f12:=(Option.some.inj (Tryz.func12.symm.trans hfn)).symm
   exact ⟨by kernel_rfl,fun j t ht=>by
    rw [Tryz.params12] at ht
    have hm:=Array.mem_of_getElem? ht
    have hm2:t ∈ [22,22,22,47]:=by simpa using hm
    have hall:([22,22,22,47].all fun u=>!Tryz.prog.wantsStandIn u)=true:=by kernel_rfl
    exact (show Tryz.prog.wantsStandIn t=false by simpa using List.all_eq_true.1 hall t hm2)⟩)
  (by kernel_rfl)
#print axioms checkThree_card
end Go.Proofs.YthgenmkengbmmaaGreatDoor
