/- The law RuleApart of the program: for every input it returns the answer true, without a panic, and each argument reads behind the call as it read before. Conditions: those of the given card alone (package variables hold what the program lays into them, and what is handed to the law has the sizes that the card allows). -/
import Derived.Test.YtgkmbhllcekagaaGreatDoorEqRuleApart
import Derived.Test.YtgkmbhllcekagaaGreatDoorSh
import Derived.Test.YtgkmbhllcekagaaGreatDoorCards
import Derived.Test.YtgkmbhllcekagaaGreatDoorTie
import Derived.SevenTiedAt
import Derived.Lay
import Derived.LaidMore
import Derived.Test.YtgkmbhllcekagaaGreatDoorRj
set_option linter.all false
/- The law RuleApart: for every input it answers true, and each argument reads behind the call as it read before. No condition. -/
namespace Go.Proofs.YtgkmbhllcekagaaGreatDoor
open Go Go.ChangeShapes Go.WideShapes Go.RowKit Go.Proofs.YtgkmbhllcekagaaGreatDoor.AM
set_option maxRecDepth 100000 in
theorem ruleApart_args (xs:List AV) (h:qF Tryz.prog 9 Tryz.f7.params.toList xs):Fun Tryz.prog 7 xs (.v (.bool true)) []:=by
  rw [show Tryz.f7.params.toList=[29,29,3] from by rw [Tryz.params7]] at h
  obtain ⟨d0,y0,g0,rfl,h0⟩:=h
  obtain ⟨d1,y1,g1,rfl,h1⟩:=h0
  obtain ⟨d2,y2,g2,rfl,h2⟩:=h1
  cases h2
  obtain ⟨x0,e0,b0⟩:=zC g0
  obtain ⟨x1,e1,b1⟩:=zC g1
  obtain ⟨x2,e2,b2⟩:=E7 g2
  rw [e0,e1,e2]
  exact law10_RuleApart_run (law10_RuleApart_eq x0 x1 x2 b0 b1 b2)
set_option maxRecDepth 100000 in
theorem ruleApart_lifted (os:Os) (started:os.Started) (H:Type) (enc:TypeId × Value→H) :
    ReturnsInHanded {} Tryz.checked os 7 .any (fun w args=>(Rows.ruleApartSpec.pre enc Tryz.prog Tryz.f7 [] false w args∧laidMetH Tryz.prog Rows.ruleApartRow.laid w)∧sizedMet enc Tryz.prog Tryz.f7 (OpenSpec.ofChange Rows.ruleApartSpec) false w args) (Rows.ruleApartSpec.post enc Tryz.prog Tryz.f7 false true false false):=by
  refine returnsInHanded_of_change_and (C:=Tryz.checked) (X:=fun w _=>laidMetH Tryz.prog Rows.ruleApartRow.laid w) (fun _ _ _ hh h=>h.of_heap hh) B8 started (by kernel_rfl) Tryz.func7
    (ChangeSpec.witness_shaped (enc:=enc) (C:=Tryz.checked) (os:=os) (X:=fun w _=>laidMetH Tryz.prog Rows.ruleApartRow.laid w) false (World.laidAll Tryz.prog os Rows.ruleApartRow.laid) #[.agg #[.string ByteArray.empty,.string ByteArray.empty,.slice none 0 0,.int .i64 0,.int .i64 0,.int .i64 0,.int .i64 0,.slice none 0 0],.agg #[.string ByteArray.empty,.string ByteArray.empty,.slice none 0 0,.int .i64 0,.int .i64 0,.int .i64 0,.int .i64 0,.slice none 0 0],.int .i64 0] 8 (World.laidAll_os _ _ _) (World.shaped_of_ZipB (by kernel_rfl) (by kernel_rfl)) (by kernel_rfl) (by kernel_rfl) (by kernel_rfl)
      (by rw [MakeChecks.laidMetH_plain _ _ _ (by kernel_rfl)]; exact laidMet_laidAll _ (by kernel_rfl) (by kernel_rfl))) ?_
  intro W base args ds gs before hval hW _ hZ hX _
  refine rL (n:=9) (bt:=4) rfl (by kernel_rfl) (zZ rfl) ?_ (by kernel_rfl) yH (fun xs hxs=>ruleApart_args xs hxs) (Fc (by rw [MakeChecks.laidMetH_plain _ _ _ (by kernel_rfl)] at hX; exact hX) (List.mem_of_getElem? (i:=5) rfl) (List.mem_of_getElem? (i:=4) rfl) (List.mem_of_getElem? (i:=2) rfl)) hval hW hZ
  intro ds hl
  have hl':ds.length=3:=by rw [hl,Tryz.params7]; rfl
  match ds,hl' with
  | [d0,d1,d2],_=>exact ⟨rfl,rfl,rfl⟩
theorem ruleApart_over:Rows.ruleApartRow.holds Tryz.pinned (OpenSpec.ofChange Rows.ruleApartSpec) :=
  OpenClaim.holds_of_wide 7 Tryz.f7 rfl rfl rfl rfl rfl rfl rfl ⟨rfl,rfl,rfl,rfl,rfl⟩ rfl rfl rfl rfl rfl (by kernel_rfl) Tryz.func7 (by kernel_rfl)
    (of_decide_eq_true (by kernel_rfl)) (by unfold Func.isWrapper; first | (rw [if_pos (by decide +kernel)]; kernel_rfl) | (rw [if_neg (by decide +kernel)]; exact ⟨rfl,rfl⟩))
    (fun os started H enc _=>ruleApart_lifted os started H enc)
theorem ruleApart_card:Rows.RuleApartCardSaid :=
  Claim7.holds_tied_plain_at .later [] [.data,.data,.data,.data,.data,.data,.pinned] true (true, "fce27ffaff582aef694104430dfdcbd43399fed8609b8952a14a40aac30aafbd") false ruleApart_over (fun _ h=>by cases h) (by kernel_rfl) (fun _ h=>by cases h) ruleApart_row_tie rfl ⟨rfl,rfl⟩ (by kernel_rfl) rfl
    (fun f fn hf hfn=>by
      obtain rfl:f=7:=Option.some.inj ((show Tryz.prog.funcNamed "watchtower/watchtowerlaw10.RuleApart" = some 7 by kernel_rfl).symm.trans hf) |>.symm
      obtain rfl:fn=Tryz.f7:=(Option.some.inj (Tryz.func7.symm.trans hfn)).symm
      exact ⟨by kernel_rfl,fun j t ht=>by
        rw [Tryz.params7] at ht
        have hm:=Array.mem_of_getElem? ht
        have hm2:t ∈ [29,29,3]:=by simpa using hm
        have hall:([29,29,3].all fun u=>!Tryz.prog.wantsStandIn u)=true:=by kernel_rfl
        exact (show Tryz.prog.wantsStandIn t=false by simpa using List.all_eq_true.1 hall t hm2)⟩)
    (by kernel_rfl)
#print axioms ruleApart_card
end Go.Proofs.YtgkmbhllcekagaaGreatDoor
