/- The law CheckTurn of the program: for every input it returns the answer true, without a panic, and each argument reads behind the call as it read before. Conditions: those of the given card alone (package variables hold what the program lays into them, and what is handed to the law has the sizes that the card allows). -/
import Derived.Test.YthgenmkengbmmaaGreatDoorCEqCheckTurn
import Derived.Test.YthgenmkengbmmaaGreatDoorCSh
import Derived.Test.YthgenmkengbmmaaGreatDoorCards
import Derived.Test.YthgenmkengbmmaaGreatDoorTie
import Derived.SevenTiedAt
import Derived.Lay
import Derived.LaidMore
set_option linter.all false
namespace Go.Proofs.YthgenmkengbmmaaGreatDoor
open Go Go.ChangeShapes Go.WideShapes Go.RowKit Go.Proofs.YthgenmkengbmmaaGreatDoor.AM
set_option maxRecDepth 100000 in
theorem checkTurn_args (xs:List AV) (h:sG Tryz.prog 9 Tryz.f10.params.toList xs):Fun Tryz.prog 10 xs (.v (.bool true)) []:=by
 rw [show Tryz.f10.params.toList=[22,22,47] from by rw [Tryz.params10]] at h
 obtain ⟨d0,y0,g0,rfl,h0⟩:=h
 obtain ⟨d1,y1,g1,rfl,h1⟩:=h0
 obtain ⟨d2,y2,g2,rfl,h2⟩:=h1
 cases h2
 obtain ⟨x0,e0,b0⟩:=pS g0
 obtain ⟨x1,e1,b1⟩:=pS g1
 obtain ⟨x2,e2,b2⟩:=E8 g2
 rw [e0,e1,e2]
 exact law12_CheckTurn_run (law12_CheckTurn_eq x0 x1 x2 b0 b1 b2)
set_option maxRecDepth 100000 in
theorem checkTurn_lifted (os:Os) (started:os.Started) (H:Type) (enc:TypeId × Value→H) :
  ReturnsInHanded {} Tryz.checked os 10 .any (fun w args=>(Rows.checkTurnSpec.pre enc Tryz.prog Tryz.f10 [] false w args∧laidMetH Tryz.prog Rows.checkTurnRow.laid w)∧sizedMet enc Tryz.prog Tryz.f10 (OpenSpec.ofChange Rows.checkTurnSpec) false w args) (Rows.checkTurnSpec.post enc Tryz.prog Tryz.f10 false true false false):=by
 refine returnsInHanded_of_change_and (C:=Tryz.checked) (X:=fun w _=>laidMetH Tryz.prog Rows.checkTurnRow.laid w) (fun _ _ _ hh h=>h.of_heap hh) DV started (by kernel_rfl) Tryz.func10
  (ChangeSpec.witness_shaped (enc:=enc) (C:=Tryz.checked) (os:=os) (X:=fun w _=>laidMetH Tryz.prog Rows.checkTurnRow.laid w) false (World.laidAll Tryz.prog os Rows.checkTurnRow.laid) #[.slice none 0 0,.slice none 0 0,.agg #[.string ByteArray.empty,.string ByteArray.empty]] 8 (World.laidAll_os _ _ _) (World.shaped_of_ZipB (by kernel_rfl) (by kernel_rfl)) (by kernel_rfl) (by kernel_rfl) (by kernel_rfl)
   (by rw [MakeChecks.laidMetH_plain _ _ _ (by kernel_rfl)]; exact laidMet_laidAll _ (by kernel_rfl) (by kernel_rfl))) ?_
 intro W base args ds gs before hval hW _ hZ hX _
 refine tG (n:=9) (bt:=4) rfl (by kernel_rfl) (C6 rfl) ?_ (by kernel_rfl) B7 (fun xs hxs=>checkTurn_args xs hxs) (HD (by rw [MakeChecks.laidMetH_plain _ _ _ (by kernel_rfl)] at hX; exact hX) (List.mem_of_getElem? (i:=4) rfl) (List.mem_of_getElem? (i:=5) rfl) (List.mem_of_getElem? (i:=2) rfl)) hval hW hZ
 intro ds hl
 have hl':ds.length=3:=by rw [hl,Tryz.params10]; rfl
 match ds,hl' with
 | [d0,d1,d2],_=>exact ⟨rfl,rfl,rfl⟩
theorem checkTurn_over:Rows.checkTurnRow.holds Tryz.pinned (OpenSpec.ofChange Rows.checkTurnSpec) :=
 OpenClaim.holds_of_wide 10 Tryz.f10 rfl rfl rfl rfl rfl rfl rfl ⟨rfl,rfl,rfl,rfl,rfl⟩ rfl rfl rfl rfl rfl (by kernel_rfl) Tryz.func10 (by kernel_rfl)
  (of_decide_eq_true (by kernel_rfl)) (by unfold Func.isWrapper; first | (rw [if_pos (by decide +kernel)]; kernel_rfl) | (rw [if_neg (by decide +kernel)]; exact ⟨rfl,rfl⟩))
  (fun os started H enc _=>checkTurn_lifted os started H enc)
theorem checkTurn_card:Rows.CheckTurnCardSaid :=
 Claim7.holds_tied_plain_at .later [] [.data,.data,.data,.data,.data,.data,.pinned] true (true, "13a4eafcb9b74cb7c03109a7fd7efebd02eced52cb2e2b7707f08c7d3c26f4ac") true checkTurn_over (fun _ h=>by cases h) (by kernel_rfl) (fun _ h=>by cases h) checkTurn_row_tie rfl ⟨rfl,rfl⟩ (by kernel_rfl) rfl
  (fun f fn hf hfn=>by
   obtain rfl:f=10:=Option.some.inj ((show Tryz.prog.funcNamed "watchtower/watchtowerlaw12.CheckTurn" = some 10 by kernel_rfl).symm.trans hf) |>.symm
   obtain rfl:fn=Tryz.f10:=(Option.some.inj (Tryz.func10.symm.trans hfn)).symm
   exact ⟨by kernel_rfl,fun j t ht=>by
    rw [Tryz.params10] at ht
    have hm:=Array.mem_of_getElem? ht
    have hm2:t ∈ [22,22,47]:=by simpa using hm
    have hall:([22,22,47].all fun u=>!Tryz.prog.wantsStandIn u)=true:=by kernel_rfl
    exact (show Tryz.prog.wantsStandIn t=false by simpa using List.all_eq_true.1 hall t hm2)⟩)
  (by kernel_rfl)
#print axioms checkTurn_card
end Go.Proofs.YthgenmkengbmmaaGreatDoor
