/- Md -/
import Derived.Test.YthgenmkengbmmaaGreatDoorCTy
set_option linter.all false
namespace Go.Proofs.YthgenmkengbmmaaGreatDoor.AM

noncomputable section
def wX (a0:Int):Option (Bool) :=
 aA vB (decide (a0=(32:Int))) fun x1=>
 aA vB (decide (a0=(9:Int))) fun x2=>
 aA vB (bif x1 then true else x2) fun x3=>
 aA vB (decide (a0=(13:Int))) fun x4=>
 aA vB (bif x3 then true else x4) fun x5=>
 aA vB (decide (a0=(10:Int))) fun x6=>
 aA vB (bif x5 then true else x6) fun x7=>
 aG x7
def dX (a0:Str) (a1:Int):Option (Int) :=
 bQ (fun (x1:Int)=>[(0,vS a0),(1,vI x1)]) (fun (x1:Int)=>[]) (fun (x1:Int)=>
 aA vI ((a0.length:Int)) fun x2=>
 aA vB (decide (x1 < x2)) fun x3=>
 aF x3 (
 bM a0 x1 fun x4=>
 aJ vB (fun x5=>[]) (wX (x4.toNat:Int)) fun x5=>
 aF x5 (
 aA vI (wI (x1 + (1:Int))) fun x6=>
 aW x6) (
 aA vB (decide ((x4.toNat:Int)=(35:Int))) fun x7=>
 aF x7 (
 bQ (fun (x8:Int)=>[(0,vS a0),(1,vI x8)]) (fun (x8:Int)=>[]) (fun (x8:Int)=>
 aA vI ((a0.length:Int)) fun x9=>
 aA vB (decide (x8 < x9)) fun x10=>
 aF x10 (
 bM a0 x8 fun x11=>
 aA vB (!decide ((x11.toNat:Int)=(10:Int))) fun x12=>
 aF x12 (
 aA vI (wI (x8 + (1:Int))) fun x13=>
 aW x13) (
 aQ<|
 aW x8)) (
 aQ<|
 aW x8)) x1) (
 aQ<|
 aG x1))) (
 aQ<|
 aG x1)) a1
def p5 (a0:Int):Option (Bool) :=
 aA vB (decide ((97:Int)≤a0)) fun x1=>
 aA vB (decide (a0≤(122:Int))) fun x2=>
 aA vB (bif x1 then x2 else false) fun x3=>
 aA vB (decide ((65:Int)≤a0)) fun x4=>
 aA vB (decide (a0≤(90:Int))) fun x5=>
 aA vB (bif x4 then x5 else false) fun x6=>
 aA vB (bif x3 then true else x6) fun x7=>
 aA vB (decide (a0=(95:Int))) fun x8=>
 aA vB (bif x7 then true else x8) fun x9=>
 aG x9
def pM (a0:Int):Option (Bool) :=
 aA vB (decide ((48:Int)≤a0)) fun x1=>
 aA vB (decide (a0≤(57:Int))) fun x2=>
 aA vB (bif x1 then x2 else false) fun x3=>
 aG x3
def dD (a0:Str):Option (Int × Int) :=
 bM a0 (0:Int) fun x1=>
 aJ vB (fun x2=>[]) (p5 (x1.toNat:Int)) fun x2=>
 aF x2 (
 aG ((1:Int),(0:Int))) (
 aJ vB (fun x3=>[]) (pM (x1.toNat:Int)) fun x3=>
 aF x3 (
 aG ((2:Int),(0:Int))) (
 aA vB (decide ((x1.toNat:Int)=(45:Int))) fun x4=>
 aA vI ((a0.length:Int)) fun x5=>
 aA vB (decide ((1:Int) < x5)) fun x6=>
 aA vB (bif x4 then x6 else false) fun x7=>
 aF x7 (
 bM a0 (1:Int) fun x8=>
 aJ vB (fun x9=>[]) (pM (x8.toNat:Int)) fun x9=>
 aF x9 (
 aG ((2:Int),(0:Int))) (
 aA vB (decide ((x1.toNat:Int)=(34:Int))) fun x10=>
 aF x10 (
 aG ((3:Int),(0:Int))) (
 aJ vI (fun x11=>[]) (strings_IndexByte ([61,33,60,62]:Str) (x1.toNat:Int)) fun x11=>
 aA vB (decide ((0:Int)≤x11)) fun x12=>
 aA vI ((a0.length:Int)) fun x13=>
 aA vB (decide ((1:Int) < x13)) fun x14=>
 aA vB (bif x12 then x14 else false) fun x15=>
 aF x15 (
 aA vB (decide ((x8.toNat:Int)=(61:Int))) fun x16=>
 aF x16 (
 aA vI (wI ((1:Int) + (1:Int))) fun x17=>
 aG ((4:Int),x17)) (
 aJ vI (fun x18=>[]) (strings_IndexByte ([123,125,40,41,44,58,59,61,60,62]:Str) (x1.toNat:Int)) fun x18=>
 aA vB (decide ((0:Int)≤x18)) fun x19=>
 aF x19 (
 aG ((4:Int),(1:Int))) (
 aG ((0:Int),(0:Int))))) (
 aJ vI (fun x20=>[]) (strings_IndexByte ([123,125,40,41,44,58,59,61,60,62]:Str) (x1.toNat:Int)) fun x20=>
 aA vB (decide ((0:Int)≤x20)) fun x21=>
 aF x21 (
 aG ((4:Int),(1:Int))) (
 aG ((0:Int),(0:Int))))))) (
 aA vB (decide ((x1.toNat:Int)=(34:Int))) fun x22=>
 aF x22 (
 aG ((3:Int),(0:Int))) (
 aJ vI (fun x23=>[]) (strings_IndexByte ([61,33,60,62]:Str) (x1.toNat:Int)) fun x23=>
 aA vB (decide ((0:Int)≤x23)) fun x24=>
 aA vI ((a0.length:Int)) fun x25=>
 aA vB (decide ((1:Int) < x25)) fun x26=>
 aA vB (bif x24 then x26 else false) fun x27=>
 aF x27 (
 bM a0 (1:Int) fun x28=>
 aA vB (decide ((x28.toNat:Int)=(61:Int))) fun x29=>
 aF x29 (
 aA vI (wI ((1:Int) + (1:Int))) fun x30=>
 aG ((4:Int),x30)) (
 aJ vI (fun x31=>[]) (strings_IndexByte ([123,125,40,41,44,58,59,61,60,62]:Str) (x1.toNat:Int)) fun x31=>
 aA vB (decide ((0:Int)≤x31)) fun x32=>
 aF x32 (
 aG ((4:Int),(1:Int))) (
 aG ((0:Int),(0:Int))))) (
 aJ vI (fun x33=>[]) (strings_IndexByte ([123,125,40,41,44,58,59,61,60,62]:Str) (x1.toNat:Int)) fun x33=>
 aA vB (decide ((0:Int)≤x33)) fun x34=>
 aF x34 (
 aG ((4:Int),(1:Int))) (
 aG ((0:Int),(0:Int))))))))
def nW (a0:Str):Option (Str × Int × Int) :=
 uX 5 1 5<|
 bQ (fun (x1:(List Int) × Int)=>[(0,vS a0),(5,so 0 (cK .u8) x1.1),(6,vI x1.2)]) (fun (x1:(List Int) × Int)=>[tk x1.1.length 1 5]) (fun (x1:(List Int) × Int)=>
 aA vI ((a0.length:Int)) fun x2=>
 aA vB (decide (x1.2 < x2)) fun x3=>
 aF x3 (
 bM a0 x1.2 fun x4=>
 aA vB (decide ((x4.toNat:Int)=(34:Int))) fun x5=>
 aF x5 (
 aA vS (eO x1.1) fun x6=>
 aA vI (wI (x1.2 + (1:Int))) fun x7=>
 aQ<|
 aG (x6,x7,(0:Int))) (
 aA vB (decide ((x4.toNat:Int)=(10:Int))) fun x8=>
 aF x8 (
 aQ<|
 aG (([]:Str),(0:Int),(12:Int))) (
 aA vB (!decide ((x4.toNat:Int)=(92:Int))) fun x9=>
 aF x9 (
 aA (sx (cK .u8)) ([(x4.toNat:Int)]:(List Int)) fun x10=>
 gdM ((x1.1.length + x10.length) * 1≤140737488355328)<|
 d7 (so 0 (cK .u8)) (fun x11=>[tk x11.length 1 5]) (x1.1 ++ x10) fun x11=>
 aA vI (wI (x1.2 + (1:Int))) fun x12=>
 aW (x11,x12)) (
 aA vI (wI (x1.2 + (1:Int))) fun x13=>
 aA vI ((a0.length:Int)) fun x14=>
 aA vB (decide (x13=x14)) fun x15=>
 aF x15 (
 aQ<|
 aG (([]:Str),(0:Int),(12:Int))) (
 aA vI (wI (x1.2 + (1:Int))) fun x16=>
 bM a0 x16 fun x17=>
 aA vB (decide ((x17.toNat:Int)=(92:Int))) fun x18=>
 aA vI (wI (x1.2 + (1:Int))) fun x19=>
 aF x18 (
 aA vI (wI (x1.2 + (1:Int))) fun x20=>
 bM a0 x20 fun x21=>
 aA (sx (cK .u8)) ([(x21.toNat:Int)]:(List Int)) fun x22=>
 gdM ((x1.1.length + x22.length) * 1≤140737488355328)<|
 d7 (so 0 (cK .u8)) (fun x23=>[tk x23.length 1 5]) (x1.1 ++ x22) fun x23=>
 aA vI (wI (x20 + (1:Int))) fun x24=>
 aW (x23,x24)) (
 bM a0 x19 fun x25=>
 aA vB (decide ((x25.toNat:Int)=(34:Int))) fun x26=>
 aF x26 (
 aA vI (wI (x1.2 + (1:Int))) fun x27=>
 bM a0 x27 fun x28=>
 aA (sx (cK .u8)) ([(x28.toNat:Int)]:(List Int)) fun x29=>
 gdM ((x1.1.length + x29.length) * 1≤140737488355328)<|
 d7 (so 0 (cK .u8)) (fun x30=>[tk x30.length 1 5]) (x1.1 ++ x29) fun x30=>
 aA vI (wI (x27 + (1:Int))) fun x31=>
 aW (x30,x31)) (
 aA vI (wI (x1.2 + (1:Int))) fun x32=>
 bM a0 x32 fun x33=>
 aA vB (decide ((x33.toNat:Int)=(110:Int))) fun x34=>
 aF x34 (
 aA vI (wI (x1.2 + (1:Int))) fun x35=>
 aA (sx (cK .u8)) ([(10:Int)]:(List Int)) fun x36=>
 gdM ((x1.1.length + x36.length) * 1≤140737488355328)<|
 d7 (so 0 (cK .u8)) (fun x37=>[tk x37.length 1 5]) (x1.1 ++ x36) fun x37=>
 aA vI (wI (x35 + (1:Int))) fun x38=>
 aW (x37,x38)) (
 aQ<|
 aG (([]:Str),x1.2,(1:Int)))))))))) (
 aQ<|
 aG (([]:Str),(0:Int),(12:Int)))) (([]:List Int),(1:Int))
def oI (a0:Str) (a1:Bool):Option (Int) :=
 bQ (fun (x1:Bool × Int)=>[(0,vS a0),(1,vB x1.1),(5,vI x1.2)]) (fun (x1:Bool × Int)=>[]) (fun (x1:Bool × Int)=>
 aA vI ((a0.length:Int)) fun x2=>
 aA vB (decide (x1.2 < x2)) fun x3=>
 aF x3 (
 bM a0 x1.2 fun x4=>
 aJ vB (fun x5=>[]) (p5 (x4.toNat:Int)) fun x5=>
 aF x5 (
 aA vB (bif true then true else false) fun x6=>
 aF x1.1 (
 aF x6 (
 aA vB (bif true then false else false) fun x7=>
 aA vB (bif true then true else x7) fun x8=>
 aF x8 (
 aA vI (wI (x1.2 + (1:Int))) fun x9=>
 aW (true,x9)) (
 aQ<|
 aG x1.2)) (
 aA vB (decide ((x4.toNat:Int)=(46:Int))) fun x10=>
 aA vB (bif true then x10 else false) fun x11=>
 aA vB (bif false then true else x11) fun x12=>
 aF x12 (
 aA vI (wI (x1.2 + (1:Int))) fun x13=>
 aW (true,x13)) (
 aQ<|
 aG x1.2))) (
 aA vB (bif false then false else false) fun x14=>
 aA vB (bif x6 then true else x14) fun x15=>
 aF x15 (
 aA vI (wI (x1.2 + (1:Int))) fun x16=>
 aW (false,x16)) (
 aQ<|
 aG x1.2))) (
 aJ vB (fun x17=>[]) (pM (x4.toNat:Int)) fun x17=>
 aA vB (bif false then true else x17) fun x18=>
 aF x1.1 (
 aF x18 (
 aA vB (bif true then false else false) fun x19=>
 aA vB (bif true then true else x19) fun x20=>
 aF x20 (
 aA vI (wI (x1.2 + (1:Int))) fun x21=>
 aW (true,x21)) (
 aQ<|
 aG x1.2)) (
 aA vB (decide ((x4.toNat:Int)=(46:Int))) fun x22=>
 aA vB (bif true then x22 else false) fun x23=>
 aA vB (bif false then true else x23) fun x24=>
 aF x24 (
 aA vI (wI (x1.2 + (1:Int))) fun x25=>
 aW (true,x25)) (
 aQ<|
 aG x1.2))) (
 aA vB (bif false then false else false) fun x26=>
 aA vB (bif x18 then true else x26) fun x27=>
 aF x27 (
 aA vI (wI (x1.2 + (1:Int))) fun x28=>
 aW (false,x28)) (
 aQ<|
 aG x1.2)))) (
 aA vB (bif x1.1 then false else false) fun x29=>
 aQ<|
 aG x1.2)) (a1,(1:Int))
def m4 (a0:Str):Option ((List aN) × Int × Int) :=
 aJ vI (fun x1=>[]) (dX a0 (0:Int)) fun x1=>
 uX 5 3 74<|
 bQ (fun (x2:(List aN) × Int)=>[(0,vS a0),(5,so 0 aB x2.1),(6,vI x2.2)]) (fun (x2:(List aN) × Int)=>[tk x2.1.length 3 74]) (fun (x2:(List aN) × Int)=>
 aA vI ((a0.length:Int)) fun x3=>
 aA vB (decide (x2.2 < x3)) fun x4=>
 aF x4 (
 aA vI ((x2.1.length:Int)) fun x5=>
 aA vB (decide (x5=(65536:Int))) fun x6=>
 aF x6 (
 aQ<|
 aG (x2.1,x2.2,(4:Int))) (
 gdM (0≤x2.2∧x2.2≤(a0.length:Int)∧(a0.length:Int)≤(a0.length:Int))<|
 aA vS ((a0.take (a0.length:Int).toNat).drop x2.2.toNat) fun x7=>
 aJ (fun x8=>.tup [vI x8.1,vI x8.2]) (fun x8=>[tk x2.1.length 3 74]) (dD x7) fun x8=>
 aA vB (decide (x8.1=(0:Int))) fun x9=>
 aF x9 (
 aQ<|
 aG (x2.1,x2.2,(1:Int))) (
 aA vB (decide (x8.1=(3:Int))) fun x10=>
 aF x10 (
 gdM (0≤x2.2∧x2.2≤(a0.length:Int)∧(a0.length:Int)≤(a0.length:Int))<|
 aA vS ((a0.take (a0.length:Int).toNat).drop x2.2.toNat) fun x11=>
 aJ (fun x12=>.tup [vS x12.1,vI x12.2.1,vI x12.2.2]) (fun x12=>[tk x2.1.length 3 74]) (nW x11) fun x12=>
 aA vB (!decide (x12.2.2=(0:Int))) fun x13=>
 aF x13 (
 aA vI (wI (x2.2 + x12.2.1)) fun x14=>
 aQ<|
 aG (x2.1,x14,x12.2.2)) (
 aA (sx aB) ([(⟨x8.1,x2.2,x12.1⟩:aN)]:(List aN)) fun x15=>
 gdM ((x2.1.length + x15.length) * 32≤140737488355328)<|
 d7 (so 0 aB) (fun x16=>[tk x16.length 3 74]) (x2.1 ++ x15) fun x16=>
 aA vI (wI (x2.2 + x12.2.1)) fun x17=>
 aJ vI (fun x18=>[tk x16.length 3 74]) (dX a0 x17) fun x18=>
 aW (x16,x18))) (
 aA vB (decide (x8.1=(1:Int))) fun x19=>
 aF x19 (
 gdM (0≤x2.2∧x2.2≤(a0.length:Int)∧(a0.length:Int)≤(a0.length:Int))<|
 aA vS ((a0.take (a0.length:Int).toNat).drop x2.2.toNat) fun x20=>
 aA vB (decide (x8.1=(2:Int))) fun x21=>
 aJ vI (fun x22=>[tk x2.1.length 3 74]) (oI x20 x21) fun x22=>
 aA vI (wI (x2.2 + x22)) fun x23=>
 gdM (0≤x2.2∧x2.2≤x23∧x23≤(a0.length:Int))<|
 aA vS ((a0.take x23.toNat).drop x2.2.toNat) fun x24=>
 aA (sx aB) ([(⟨x8.1,x2.2,x24⟩:aN)]:(List aN)) fun x25=>
 gdM ((x2.1.length + x25.length) * 32≤140737488355328)<|
 d7 (so 0 aB) (fun x26=>[tk x26.length 3 74]) (x2.1 ++ x25) fun x26=>
 aA vI (wI (x2.2 + x22)) fun x27=>
 aJ vI (fun x28=>[tk x26.length 3 74]) (dX a0 x27) fun x28=>
 aW (x26,x28)) (
 aA vB (decide (x8.1=(2:Int))) fun x29=>
 aF x29 (
 gdM (0≤x2.2∧x2.2≤(a0.length:Int)∧(a0.length:Int)≤(a0.length:Int))<|
 aA vS ((a0.take (a0.length:Int).toNat).drop x2.2.toNat) fun x30=>
 aA vB (decide (x8.1=(2:Int))) fun x31=>
 aJ vI (fun x32=>[tk x2.1.length 3 74]) (oI x30 x31) fun x32=>
 aA vI (wI (x2.2 + x32)) fun x33=>
 gdM (0≤x2.2∧x2.2≤x33∧x33≤(a0.length:Int))<|
 aA vS ((a0.take x33.toNat).drop x2.2.toNat) fun x34=>
 aA (sx aB) ([(⟨x8.1,x2.2,x34⟩:aN)]:(List aN)) fun x35=>
 gdM ((x2.1.length + x35.length) * 32≤140737488355328)<|
 d7 (so 0 aB) (fun x36=>[tk x36.length 3 74]) (x2.1 ++ x35) fun x36=>
 aA vI (wI (x2.2 + x32)) fun x37=>
 aJ vI (fun x38=>[tk x36.length 3 74]) (dX a0 x37) fun x38=>
 aW (x36,x38)) (
 aA vI (wI (x2.2 + x8.2)) fun x39=>
 gdM (0≤x2.2∧x2.2≤x39∧x39≤(a0.length:Int))<|
 aA vS ((a0.take x39.toNat).drop x2.2.toNat) fun x40=>
 aA (sx aB) ([(⟨x8.1,x2.2,x40⟩:aN)]:(List aN)) fun x41=>
 gdM ((x2.1.length + x41.length) * 32≤140737488355328)<|
 d7 (so 0 aB) (fun x42=>[tk x42.length 3 74]) (x2.1 ++ x41) fun x42=>
 aA vI (wI (x2.2 + x8.2)) fun x43=>
 aJ vI (fun x44=>[tk x42.length 3 74]) (dX a0 x43) fun x44=>
 aW (x42,x44))))))) (
 aQ<|
 aA vI ((a0.length:Int)) fun x45=>
 aG (x2.1,x45,(0:Int)))) (([]:List aN),x1)
def nL (a0:Int) (a1:Str) (a2:(List aN)) (a3:Int) (a4:(List aI)):Option (Bool) :=
 aA vI ((a2.length:Int)) fun x1=>
 aA vB (decide (a3 < x1)) fun x2=>
 aF x2 (
 bM a2 a3 fun x3=>
 aA vB (decide (x3.K=a0)) fun x4=>
 aF x4 (
 aA vB (decide (x3.S=a1)) fun x5=>
 aG x5) (
 aG false)) (
 aG false)
def iH (a0:Int) (a1:Str) (a2:(List aN)) (a3:Int) (a4:(List aI)):Option (Bool × Int) :=
 bV [0] [.box [sl aB a2,vI a3,sl aD a4]] (fun x1=>vB x1) (fun x1=>[.box [sl aB a2,vI a3,sl aD a4]]) (nL a0 a1 a2 a3 a4) fun x1=>
 aF x1 (
 aA vI (wI (a3 + (1:Int))) fun x2=>
 aG (true,x2)) (
 aG (false,a3))
def jF (a0:(List aN)) (a1:Int) (a2:(List aI)):Option (Except Flt (Unit)) :=
 aA vI ((a0.length:Int)) fun x1=>
 aA vB (decide (x1≤a1)) fun x2=>
 aF x2 (
 kR<|
 cV (a1,(3:Int))) (
 kR<|
 cV (a1,(1:Int)))
def iG (a0:Int) (a1:Str) (a2:(List aN)) (a3:Int) (a4:(List aI)):Option (Except Flt (Int)) :=
 bV [0] [.box [sl aB a2,vI a3,sl aD a4]] (fun x1=>vB x1.1) (fun x1=>[.box [sl aB a2,vI x1.2,sl aD a4]]) (iH a0 a1 a2 a3 a4) fun x1=>
 aA vB (!x1.1) fun x2=>
 aF x2 (
 eY [0] [.box [sl aB a2,vI x1.2,sl aD a4]] (fun x3=>.tup []) (fun x3=>[.box [sl aB a2,vI x1.2,sl aD a4]]) (jF a2 x1.2 a4) (fun x4=>
 cV x4) fun x3=>
 okM x1.2) (
 okM x1.2)
def lU (a0:Int) (a1:(List aN)) (a2:Int) (a3:(List aI)):Option (Except Flt (Str × Int)) :=
 aA vI ((a1.length:Int)) fun x1=>
 aA vB (decide (x1≤a2)) fun x2=>
 aF x2 (
 eY [0] [.box [sl aB a1,vI a2,sl aD a3]] (fun x3=>.tup []) (fun x3=>[.box [sl aB a1,vI a2,sl aD a3]]) (jF a1 a2 a3) (fun x4=>
 cV x4) fun x3=>
 aA vI (wI (a2 + (1:Int))) fun x5=>
 aA vI (wI (x5 - (1:Int))) fun x6=>
 bM a1 x6 fun x7=>
 okM (x7.S,x5)) (
 bM a1 a2 fun x8=>
 aA vB (!decide (x8.K=a0)) fun x9=>
 aF x9 (
 eY [0] [.box [sl aB a1,vI a2,sl aD a3]] (fun x10=>.tup []) (fun x10=>[.box [sl aB a1,vI a2,sl aD a3]]) (jF a1 a2 a3) (fun x11=>
 cV x11) fun x10=>
 aA vI (wI (a2 + (1:Int))) fun x12=>
 aA vI (wI (x12 - (1:Int))) fun x13=>
 bM a1 x13 fun x14=>
 okM (x14.S,x12)) (
 aA vI (wI (a2 + (1:Int))) fun x15=>
 aA vI (wI (x15 - (1:Int))) fun x16=>
 bM a1 x16 fun x17=>
 okM (x17.S,x15)))
def fR (a0:Str):Option (Bool) :=
 aA vI ((a0.length:Int)) fun x1=>
 aA vB (decide (x1 < (1:Int))) fun x2=>
 aA vI ((a0.length:Int)) fun x3=>
 aA vB (decide ((64:Int) < x3)) fun x4=>
 aA vB (bif x2 then true else x4) fun x5=>
 aF x5 (
 aG false) (
 bQ (fun (x6:Int)=>[(0,vS a0),(3,vI x6)]) (fun (x6:Int)=>[]) (fun (x6:Int)=>
 aA vI ((a0.length:Int)) fun x7=>
 aA vB (decide (x6 < x7)) fun x8=>
 aF x8 (
 bM a0 x6 fun x9=>
 aA vB (decide ((97:Int)≤(x9.toNat:Int))) fun x10=>
 aA vB (decide ((x9.toNat:Int)≤(122:Int))) fun x11=>
 aA vB (bif x10 then x11 else false) fun x12=>
 aA vB (decide ((65:Int)≤(x9.toNat:Int))) fun x13=>
 aA vB (decide ((x9.toNat:Int)≤(90:Int))) fun x14=>
 aA vB (bif x13 then x14 else false) fun x15=>
 aA vB (bif x12 then true else x15) fun x16=>
 aA vB (decide ((x9.toNat:Int)=(95:Int))) fun x17=>
 aA vB (bif x16 then true else x17) fun x18=>
 aA vB (decide ((48:Int)≤(x9.toNat:Int))) fun x19=>
 aA vB (decide ((x9.toNat:Int)≤(57:Int))) fun x20=>
 aA vB (bif x19 then x20 else false) fun x21=>
 aA vB (!x18) fun x22=>
 aA vB (!x21) fun x23=>
 aA vB (decide (x6=(0:Int))) fun x24=>
 aA vB (bif x23 then true else x24) fun x25=>
 aA vB (bif x22 then x25 else false) fun x26=>
 aF x26 (
 aQ<|
 aG false) (
 aA vI (wI (x6 + (1:Int))) fun x27=>
 aW x27)) (
 aQ<|
 aG true)) (0:Int))
def kF (a0:(List aI)) (a1:Str):Option (Bool) :=
 aA vI ((a0.length:Int)) fun x1=>
 bQ (fun (x2:Int)=>[(1,vS a1),(7,sl aD a0),(8,vI x1),(9,vI x2)]) (fun (x2:Int)=>[]) (fun (x2:Int)=>
 aA vB (decide (x2 < x1)) fun x3=>
 aF x3 (
 bM a0 x2 fun x4=>
 aA vB (decide (x4.Name=a1)) fun x5=>
 aF x5 (
 aQ<|
 aG true) (
 aA vI (wI (x2 + (1:Int))) fun x6=>
 aW x6)) (
 aQ<|
 aG false)) (0:Int)
def wK (a0:Str):Option (Int × Int) :=
 bQ (fun (x1:Int × Int)=>[(0,vS a0),(4,vI x1.1),(5,vI x1.2)]) (fun (x1:Int × Int)=>[]) (fun (x1:Int × Int)=>
 aA vI ((a0.length:Int)) fun x2=>
 aA vB (decide (x1.2 < x2)) fun x3=>
 aF x3 (
 bM a0 x1.2 fun x4=>
 aA vB (decide ((48:Int)≤(x4.toNat:Int))) fun x5=>
 aF x5 (
 aA vB (decide ((x4.toNat:Int)≤(57:Int))) fun x6=>
 aF x6 (
 aA vI (wI (x1.1 * (10:Int))) fun x7=>
 aA (vK .u8) (IntKind.u8.wrap ((x4.toNat:Int) - (48:Int))) fun x8=>
 aA vI (wI x8) fun x9=>
 aA vI (wI (x7 + x9)) fun x10=>
 aA vI (min x10 (9007199254740993:Int)) fun x11=>
 aA vI (wI (x1.2 + (1:Int))) fun x12=>
 aW (x11,x12)) (
 aQ<|
 aG (x1.1,x1.2))) (
 aQ<|
 aG (x1.1,x1.2))) (
 aQ<|
 aG (x1.1,x1.2))) ((0:Int),(0:Int))
def fU (a0:Str) (a1:Str):Option (Bool) :=
 aA vI ((a0.length:Int)) fun x1=>
 aA vI ((a1.length:Int)) fun x2=>
 aA vB (decide (x2≤x1)) fun x3=>
 aA vI ((a1.length:Int)) fun x4=>
 aF x3 (
 gdM (0≤(0:Int)∧(0:Int)≤x4∧x4≤(a0.length:Int))<|
 aA vS ((a0.take x4.toNat).drop (0:Int).toNat) fun x5=>
 aA vB (decide (x5=a1)) fun x6=>
 aG x6) (
 aG false)
def iZ (a0:Str) (a1:Str):Option (Bool) :=
 aJ vB (fun x1=>[]) (fU a0 a1) fun x1=>
 aG x1
def yF (a0:Int) (a1:Int) (a2:Int):Option (Int) :=
 aA vB (decide ((9007199254740992:Int) < a0)) fun x1=>
 aA vI (wI ((9007199254740992:Int) - a0)) fun x2=>
 aF x1 (
 aG (9007199254740993:Int)) (
 gdM (a2 ≠ 0)<|
 aA vI (wI (Int.tdiv x2 a2)) fun x3=>
 aA vB (decide (x3 < a1)) fun x4=>
 aF x4 (
 aG (9007199254740993:Int)) (
 aA vI (wI (a1 * a2)) fun x5=>
 aA vI (wI (a0 + x5)) fun x6=>
 aG x6))
def nM (a0:Int):Option (Bool) :=
 aA vB (decide ((0:Int)≤a0)) fun x1=>
 aA vB (decide (a0≤(9007199254740992:Int))) fun x2=>
 aA vB (bif x1 then x2 else false) fun x3=>
 aG x3
def m8 (a0:Str):Option (Int × Int) :=
 bQ (fun (x1:Str × Int × Int × Bool)=>[(0,vS x1.1),(4,vI x1.2.1),(5,vI x1.2.2.1),(6,vB x1.2.2.2)]) (fun (x1:Str × Int × Int × Bool)=>[]) (fun (x1:Str × Int × Int × Bool)=>
 aA vB (!decide (x1.1=([]:Str))) fun x2=>
 aA vB (bif x1.2.2.2 then true else x2) fun x3=>
 aF x3 (
 aJ (fun x4=>.tup [vI x4.1,vI x4.2]) (fun x4=>[]) (wK x1.1) fun x4=>
 aA vB (decide (x4.2=(0:Int))) fun x5=>
 aF x5 (
 aQ<|
 aG ((0:Int),(1:Int))) (
 gdM (0≤x4.2∧x4.2≤(x1.1.length:Int)∧(x1.1.length:Int)≤(x1.1.length:Int))<|
 aA vS ((x1.1.take (x1.1.length:Int).toNat).drop x4.2.toNat) fun x6=>
 bQ (fun (x7:Int)=>[(4,vI x1.2.1),(5,vI x1.2.2.1),(7,vI x4.1),(9,vS x6),(27,.agg ((gl0.map C3).flatten.map .ofD)),(28,vI x7)]) (fun (x7:Int)=>[]) (fun (x7:Int)=>
 aA vB (decide (x7 < (5:Int))) fun x8=>
 aF x8 (
 bM gl0 x7 fun x9=>
 aA vB (decide (x7 < x1.2.2.1)) fun x10=>
 aF x10 (
 aA vI (wI (x7 + (1:Int))) fun x11=>
 aW x11) (
 aJ vB (fun x12=>[.box [vS x9.letters,vI x9.size]]) (iZ x6 x9.letters) fun x12=>
 aA vB (!x12) fun x13=>
 aF x13 (
 aA vI (wI (x7 + (1:Int))) fun x14=>
 aW x14) (
 aA vB (decide (x9.letters=([109]:Str))) fun x15=>
 aF x15 (
 aJ vB (fun x16=>[.box [vS x9.letters,vI x9.size]]) (iZ x6 ([109,115]:Str)) fun x16=>
 aF x16 (
 aA vI (wI (x7 + (1:Int))) fun x17=>
 aW x17) (
 aJ vI (fun x18=>[.box [vS x9.letters,vI x9.size]]) (yF x1.2.1 x4.1 x9.size) fun x18=>
 aA vI ((x9.letters.length:Int)) fun x19=>
 gdM (0≤x19∧x19≤(x6.length:Int)∧(x6.length:Int)≤(x6.length:Int))<|
 aA vS ((x6.take (x6.length:Int).toNat).drop x19.toNat) fun x20=>
 aA vI (wI (x7 + (1:Int))) fun x21=>
 aQ<|
 aW (x20,x18,x21,false))) (
 aJ vI (fun x22=>[.box [vS x9.letters,vI x9.size]]) (yF x1.2.1 x4.1 x9.size) fun x22=>
 aA vI ((x9.letters.length:Int)) fun x23=>
 gdM (0≤x23∧x23≤(x6.length:Int)∧(x6.length:Int)≤(x6.length:Int))<|
 aA vS ((x6.take (x6.length:Int).toNat).drop x23.toNat) fun x24=>
 aA vI (wI (x7 + (1:Int))) fun x25=>
 aQ<|
 aW (x24,x22,x25,false))))) (
 aQ<|
 aQ<|
 aG ((0:Int),(1:Int)))) (0:Int))) (
 aQ<|
 aJ vB (fun x26=>[]) (nM x1.2.1) fun x26=>
 aA vB (!x26) fun x27=>
 aF x27 (
 aG ((0:Int),(2:Int))) (
 aG (x1.2.1,(0:Int))))) (a0,(0:Int),(0:Int),true)
def jP (a0:(List aN)) (a1:Int) (a2:(List aI)):Option (Except Flt (Int × Int)) :=
 eY [0] [.box [sl aB a0,vI a1,sl aD a2]] (fun x1=>vS x1.1) (fun x1=>[.box [sl aB a0,vI x1.2,sl aD a2]]) (lU (2:Int) a0 a1 a2) (fun x2=>
 cV x2) fun x1=>
 aJ (fun x3=>.tup [vI x3.1,vI x3.2]) (fun x3=>[.box [sl aB a0,vI x1.2,sl aD a2]]) (m8 x1.1) fun x3=>
 aA vB (!decide (x3.2=(0:Int))) fun x4=>
 aF x4 (
 aA vI (wI (x1.2 - (1:Int))) fun x5=>
 kR<|
 cV (x5,x3.2)) (
 okM (x3.1,x1.2))
def dU (a0:Int) (a1:bD):Option (Bool) :=
 aA vI ((a1.l.length:Int)) fun x1=>
 aA vB (decide (a1.i < x1)) fun x2=>
 aF x2 (
 bM a1.l a1.i fun x3=>
 aA vB (decide (x3.K=a0)) fun x4=>
 aG x4) (
 aG false)
def g8 (a0:Int) (a1:Str) (a2:bD):Option (Bool) :=
 eN<|
 bV [0] [.box [sl aB a2.l,vI a2.i,vS a2.r.Name,vS a2.r.E.S.Name,sl aH a2.r.E.S.M,vI a2.r.E.Op,vI a2.r.E.V,vI a2.r.For,vI a2.r.Keep,sl aK a2.r.Labels]] (fun x1=>vB x1) (fun x1=>[.box [sl aB a2.l,vI a2.i,vS a2.r.Name,vS a2.r.E.S.Name,sl aH a2.r.E.S.M,vI a2.r.E.Op,vI a2.r.E.V,vI a2.r.For,vI a2.r.Keep,sl aK a2.r.Labels]]) (dU a0 a2) fun x1=>
 aF x1 (
 bM a2.l a2.i fun x2=>
 aA vB (decide (x2.S=a1)) fun x3=>
 aG x3) (
 aG false)
def cX (a0:Int) (a1:Str) (a2:bD):Option (Bool × bD) :=
 bV [0] [.box [sl aB a2.l,vI a2.i,vS a2.r.Name,vS a2.r.E.S.Name,sl aH a2.r.E.S.M,vI a2.r.E.Op,vI a2.r.E.V,vI a2.r.For,vI a2.r.Keep,sl aK a2.r.Labels]] (fun x1=>vB x1) (fun x1=>[.box [sl aB a2.l,vI a2.i,vS a2.r.Name,vS a2.r.E.S.Name,sl aH a2.r.E.S.M,vI a2.r.E.Op,vI a2.r.E.V,vI a2.r.For,vI a2.r.Keep,sl aK a2.r.Labels]]) (g8 a0 a1 a2) fun x1=>
 aF x1 (
 aA vI (wI (a2.i + (1:Int))) fun x2=>
 aG (true,(⟨a2.l,x2,a2.r⟩:bD))) (
 aG (false,a2))
def cN (a0:bD):Option (Int) :=
 aA vI ((a0.l.length:Int)) fun x1=>
 aA vB (decide (x1≤a0.i)) fun x2=>
 aF x2 (
 aG (3:Int)) (
 aG (1:Int))
def sM (a0:(List aN)) (a1:Int) (a2:Str):Option (Bool) :=
 aA vI ((a0.length:Int)) fun x1=>
 aA vB (decide (a1 < x1)) fun x2=>
 aF x2 (
 bM a0 a1 fun x3=>
 aA vB (decide (x3.K=(4:Int))) fun x4=>
 aF x4 (
 aA vB (decide (x3.S=a2)) fun x5=>
 aG x5) (
 aG false)) (
 aG false)
def fQ (a0:Int) (a1:cF):Option (Bool) :=
 aA vI ((a1.l.length:Int)) fun x1=>
 aA vB (decide (a1.i < x1)) fun x2=>
 aF x2 (
 bM a1.l a1.i fun x3=>
 aA vB (decide (x3.K=a0)) fun x4=>
 aG x4) (
 aG false)
def dS (a0:cF):Option (Int) :=
 aA vI ((a0.l.length:Int)) fun x1=>
 aA vB (decide (x1≤a0.i)) fun x2=>
 aF x2 (
 aG (3:Int)) (
 aG (1:Int))
def i7 (a0:cF):Option (Str × Int × cF) :=
 bV [0] [.box [sl aB a0.l,vI a0.i]] (fun x1=>vB x1) (fun x1=>[.box [sl aB a0.l,vI a0.i]]) (fQ (1:Int) a0) fun x1=>
 aA vB (!x1) fun x2=>
 aF x2 (
 bV [0] [.box [sl aB a0.l,vI a0.i]] (fun x3=>vI x3) (fun x3=>[.box [sl aB a0.l,vI a0.i]]) (dS a0) fun x3=>
 aG (([]:Str),x3,a0)) (
 bM a0.l a0.i fun x4=>
 aJ vB (fun x5=>[.box [sl aB a0.l,vI a0.i]]) (fR x4.S) fun x5=>
 aA vB (!x5) fun x6=>
 aF x6 (
 aG (([]:Str),(7:Int),a0)) (
 aA vI (wI (a0.i + (1:Int))) fun x7=>
 aG (x4.S,(0:Int),(⟨a0.l,x7⟩:cF))))
def d8 (a0:Str) (a1:cF):Option (Bool × cF) :=
 eN<|
 bV [0] [.box [sl aB a1.l,vI a1.i]] (fun x1=>vB x1) (fun x1=>[.box [sl aB a1.l,vI a1.i]]) (fQ (4:Int) a1) fun x1=>
 aA vB (!x1) fun x2=>
 aF x2 (
 aG (false,a1)) (
 bM a1.l a1.i fun x3=>
 aA vB (!decide (x3.S=a0)) fun x4=>
 aF x4 (
 aG (false,a1)) (
 aA vI (wI (a1.i + (1:Int))) fun x5=>
 aG (true,(⟨a1.l,x5⟩:cF))))
def jU (a0:Int) (a1:cF):Option (bS × Int × cF) :=
 bV [0] [.box [sl aB a1.l,vI a1.i],.box [vS ([]:Str),vS ([]:Str),vB false]] (fun x1=>.tup [vS x1.1,vI x1.2.1]) (fun x1=>[.box [sl aB x1.2.2.l,vI x1.2.2.i],.box [vS ([]:Str),vS ([]:Str),vB false]]) (i7 a1) fun x1=>
 aA vB (!decide (x1.2.1=(0:Int))) fun x2=>
 aF x2 (
 aG ((⟨([]:Str),([]:Str),false⟩:bS),x1.2.1,x1.2.2)) (
 bV [0] [.box [sl aB x1.2.2.l,vI x1.2.2.i],.box [vS ([]:Str),vS ([]:Str),vB false]] (fun x3=>vB x3.1) (fun x3=>[.box [sl aB x3.2.l,vI x3.2.i],.box [vS ([]:Str),vS ([]:Str),vB false]]) (d8 ([33,61]:Str) x1.2.2) fun x3=>
 aA vB (!x3.1) fun x4=>
 aF x4 (
 bV [0] [.box [sl aB x3.2.l,vI x3.2.i],.box [vS ([]:Str),vS ([]:Str),vB false]] (fun x5=>vB x5.1) (fun x5=>[.box [sl aB x5.2.l,vI x5.2.i],.box [vS ([]:Str),vS ([]:Str),vB false]]) (d8 ([61]:Str) x3.2) fun x5=>
 aA vB (!x5.1) fun x6=>
 aF x6 (
 bV [0] [.box [sl aB x5.2.l,vI x5.2.i],.box [vS ([]:Str),vS ([]:Str),vB false]] (fun x7=>vI x7) (fun x7=>[.box [sl aB x5.2.l,vI x5.2.i],.box [vS ([]:Str),vS ([]:Str),vB false]]) (dS x5.2) fun x7=>
 aG ((⟨([]:Str),([]:Str),false⟩:bS),x7,x5.2)) (
 bV [0] [.box [sl aB x5.2.l,vI x5.2.i],.box [vS ([]:Str),vS ([]:Str),vB false]] (fun x8=>vB x8) (fun x8=>[.box [sl aB x5.2.l,vI x5.2.i],.box [vS ([]:Str),vS ([]:Str),vB false]]) (fQ (3:Int) x5.2) fun x8=>
 aA vB (!x8) fun x9=>
 aF x9 (
 bV [0] [.box [sl aB x5.2.l,vI x5.2.i],.box [vS ([]:Str),vS ([]:Str),vB false]] (fun x10=>vI x10) (fun x10=>[.box [sl aB x5.2.l,vI x5.2.i],.box [vS ([]:Str),vS ([]:Str),vB false]]) (dS x5.2) fun x10=>
 aG ((⟨([]:Str),([]:Str),false⟩:bS),x10,x5.2)) (
 bM x5.2.l x5.2.i fun x11=>
 aA vI ((x11.S.length:Int)) fun x12=>
 aA vB (decide ((64:Int) < x12)) fun x13=>
 aA vB (decide ((8:Int)≤a0)) fun x14=>
 aA vB (bif x13 then true else x14) fun x15=>
 aF x15 (
 aG ((⟨([]:Str),([]:Str),false⟩:bS),(4:Int),x5.2)) (
 aA vI (wI (x5.2.i + (1:Int))) fun x16=>
 aG ((⟨x1.1,x11.S,x3.1⟩:bS),(0:Int),(⟨x5.2.l,x16⟩:cF)))))) (
 bV [0] [.box [sl aB x3.2.l,vI x3.2.i],.box [vS ([]:Str),vS ([]:Str),vB false]] (fun x17=>vB x17) (fun x17=>[.box [sl aB x3.2.l,vI x3.2.i],.box [vS ([]:Str),vS ([]:Str),vB false]]) (fQ (3:Int) x3.2) fun x17=>
 aA vB (!x17) fun x18=>
 aF x18 (
 bV [0] [.box [sl aB x3.2.l,vI x3.2.i],.box [vS ([]:Str),vS ([]:Str),vB false]] (fun x19=>vI x19) (fun x19=>[.box [sl aB x3.2.l,vI x3.2.i],.box [vS ([]:Str),vS ([]:Str),vB false]]) (dS x3.2) fun x19=>
 aG ((⟨([]:Str),([]:Str),false⟩:bS),x19,x3.2)) (
 bM x3.2.l x3.2.i fun x20=>
 aA vI ((x20.S.length:Int)) fun x21=>
 aA vB (decide ((64:Int) < x21)) fun x22=>
 aA vB (decide ((8:Int)≤a0)) fun x23=>
 aA vB (bif x22 then true else x23) fun x24=>
 aF x24 (
 aG ((⟨([]:Str),([]:Str),false⟩:bS),(4:Int),x3.2)) (
 aA vI (wI (x3.2.i + (1:Int))) fun x25=>
 aG ((⟨x1.1,x20.S,x3.1⟩:bS),(0:Int),(⟨x3.2.l,x25⟩:cF))))))
def kX (a0:cF):Option (cT × Int × cF) :=
 bV [0] [.box [sl aB a0.l,vI a0.i],.box [vS ([]:Str),.v (.slice none 0 0)]] (fun x1=>.tup [vS x1.1,vI x1.2.1]) (fun x1=>[.box [sl aB x1.2.2.l,vI x1.2.2.i],.box [vS ([]:Str),.v (.slice none 0 0)]]) (i7 a0) fun x1=>
 aA vB (!decide (x1.2.1=(0:Int))) fun x2=>
 aF x2 (
 aG ((⟨([]:Str),([]:(List bS))⟩:cT),x1.2.1,x1.2.2)) (
 bV [0] [.box [sl aB x1.2.2.l,vI x1.2.2.i],.box [vS ([]:Str),.v (.slice none 0 0)],.box [vS x1.1,.v (.slice none 0 0)]] (fun x3=>vB x3.1) (fun x3=>[.box [sl aB x3.2.l,vI x3.2.i],.box [vS ([]:Str),.v (.slice none 0 0)],.box [vS x1.1,.v (.slice none 0 0)]]) (d8 ([123]:Str) x1.2.2) fun x3=>
 aA vB (!x3.1) fun x4=>
 aF x4 (
 aG ((⟨x1.1,([]:(List bS))⟩:cT),(0:Int),x3.2)) (
 bV [0] [.box [sl aB x3.2.l,vI x3.2.i],.box [vS ([]:Str),.v (.slice none 0 0)],.box [vS x1.1,.v (.slice none 0 0)]] (fun x5=>vB x5.1) (fun x5=>[.box [sl aB x5.2.l,vI x5.2.i],.box [vS ([]:Str),.v (.slice none 0 0)],.box [vS x1.1,.v (.slice none 0 0)]]) (d8 ([125]:Str) x3.2) fun x5=>
 aF x5.1 (
 aG ((⟨x1.1,([]:(List bS))⟩:cT),(0:Int),x5.2)) (
 tokB 2 1 3 117<|
 bQ (fun (x6:(List aN) × Int × (List bS))=>[(0,.ptr 0 0),(2,.ptr 1 0),(6,.ptr 2 0),(7,.fn 165 [.ptr 0 0] [])]) (fun (x6:(List aN) × Int × (List bS))=>[.box [sl aB x6.1,vI x6.2.1],.box [vS ([]:Str),.v (.slice none 0 0)],.box [vS x1.1,so 3 aH x6.2.2],tk x6.2.2.length 3 117]) (fun (x6:(List aN) × Int × (List bS))=>
 aA vI ((x6.2.2.length:Int)) fun x7=>
 bV [0] [.box [sl aB x6.1,vI x6.2.1],.box [vS ([]:Str),.v (.slice none 0 0)],.box [vS x1.1,so 3 aH x6.2.2],tk x6.2.2.length 3 117] (fun x8=>.tup [(ag aH) x8.1,vI x8.2.1]) (fun x8=>[.box [sl aB x8.2.2.l,vI x8.2.2.i],.box [vS ([]:Str),.v (.slice none 0 0)],.box [vS x1.1,so 3 aH x6.2.2],tk x6.2.2.length 3 117]) (jU x7 (⟨x6.1,x6.2.1⟩:cF)) fun x8=>
 aA vB (!decide (x8.2.1=(0:Int))) fun x9=>
 aF x9 (
 aQ<|
 aG ((⟨([]:Str),([]:(List bS))⟩:cT),x8.2.1,x8.2.2)) (
 aA (sx aH) ([x8.1]:(List bS)) fun x10=>
 gdM ((x6.2.2.length + x10.length) * 40≤140737488355328)<|
 d7 (so 3 aH) (fun x11=>[.box [sl aB x8.2.2.l,vI x8.2.2.i],.box [vS ([]:Str),.v (.slice none 0 0)],.box [vS x1.1,so 3 aH x6.2.2],tk x11.length 3 117,.box [vS x8.1.Name,vS x8.1.Value,vB x8.1.Not]]) (x6.2.2 ++ x10) fun x11=>
 bV [0] [.box [sl aB x8.2.2.l,vI x8.2.2.i],.box [vS ([]:Str),.v (.slice none 0 0)],.box [vS x1.1,so 3 aH x11],tk x11.length 3 117,.box [vS x8.1.Name,vS x8.1.Value,vB x8.1.Not]] (fun x12=>vB x12.1) (fun x12=>[.box [sl aB x12.2.l,vI x12.2.i],.box [vS ([]:Str),.v (.slice none 0 0)],.box [vS x1.1,so 3 aH x11],tk x11.length 3 117,.box [vS x8.1.Name,vS x8.1.Value,vB x8.1.Not]]) (d8 ([125]:Str) x8.2.2) fun x12=>
 aF x12.1 (
 aQ<|
 aG ((⟨x1.1,x11⟩:cT),(0:Int),x12.2)) (
 bV [0] [.box [sl aB x12.2.l,vI x12.2.i],.box [vS ([]:Str),.v (.slice none 0 0)],.box [vS x1.1,so 3 aH x11],tk x11.length 3 117,.box [vS x8.1.Name,vS x8.1.Value,vB x8.1.Not]] (fun x13=>vB x13.1) (fun x13=>[.box [sl aB x13.2.l,vI x13.2.i],.box [vS ([]:Str),.v (.slice none 0 0)],.box [vS x1.1,so 3 aH x11],tk x11.length 3 117,.box [vS x8.1.Name,vS x8.1.Value,vB x8.1.Not]]) (d8 ([44]:Str) x12.2) fun x13=>
 aA vB (!x13.1) fun x14=>
 aF x14 (
 bV [0] [.box [sl aB x13.2.l,vI x13.2.i],.box [vS ([]:Str),.v (.slice none 0 0)],.box [vS x1.1,so 3 aH x11],tk x11.length 3 117,.box [vS x8.1.Name,vS x8.1.Value,vB x8.1.Not]] (fun x15=>vI x15) (fun x15=>[.box [sl aB x13.2.l,vI x13.2.i],.box [vS ([]:Str),.v (.slice none 0 0)],.box [vS x1.1,so 3 aH x11],tk x11.length 3 117,.box [vS x8.1.Name,vS x8.1.Value,vB x8.1.Not]]) (dS x13.2) fun x15=>
 aQ<|
 aG ((⟨([]:Str),([]:(List bS))⟩:cT),x15,x13.2)) (
 aW (x13.2.l,x13.2.i,x11))))) (x5.2.l,x5.2.i,([]:List bS)))))
def wP (a0:(List aN)) (a1:Int):Option (cT × Int × Int) :=
 aA vB (decide (a1 < (0:Int))) fun x1=>
 aF x1 (
 aG ((⟨([]:Str),([]:(List bS))⟩:cT),(0:Int),(3:Int))) (
 aA vI ((a0.length:Int)) fun x2=>
 aA vI (min a1 x2) fun x3=>
 bV [1] [.box [vS ([]:Str),.v (.slice none 0 0)],.box [sl aB a0,vI x3]] (fun x4=>.tup [(ag rI) x4.1,vI x4.2.1]) (fun x4=>[.box [vS ([]:Str),.v (.slice none 0 0)],.box [sl aB x4.2.2.l,vI x4.2.2.i]]) (kX (⟨a0,x3⟩:cF)) fun x4=>
 sN [0] [0] [(false,0),(false,1),(false,2),(false,3),(false,4),(false,5),(true,6),(false,7),(false,8)]<|
 aG (x4.1,x4.2.2.i,x4.2.1))
def pA (a0:Int):Option (Bool) :=
 aA vB (decide ((1:Int)≤a0)) fun x1=>
 aA vB (decide (a0≤(6:Int))) fun x2=>
 aA vB (bif x1 then x2 else false) fun x3=>
 aG x3
def kM (a0:(List aN)) (a1:Int):Option (Int) :=
 aA vI ((a0.length:Int)) fun x1=>
 aA vB (decide (x1≤a1)) fun x2=>
 aF x2 (
 aG (3:Int)) (
 aG (1:Int))
def j6 (a0:Str) (a1:Str):Option (Str × Bool) :=
 aJ vB (fun x1=>[]) (fU a0 a1) fun x1=>
 aA vB (!x1) fun x2=>
 aF x2 (
 aG (a0,false)) (
 aA vI ((a1.length:Int)) fun x3=>
 gdM (0≤x3∧x3≤(a0.length:Int)∧(a0.length:Int)≤(a0.length:Int))<|
 aA vS ((a0.take (a0.length:Int).toNat).drop x3.toNat) fun x4=>
 aG (x4,true))
def kJ (a0:Str) (a1:Str):Option (Str × Bool) :=
 aJ (fun x1=>.tup [vS x1.1,vB x1.2]) (fun x1=>[]) (j6 a0 a1) fun x1=>
 aG (x1.1,x1.2)
def rO (a0:Int) (a1:Int):Option (Int) :=
 aA vI (wI (a0 * (10:Int))) fun x1=>
 aA vI (wI (x1 + a1)) fun x2=>
 aA vI (min x2 (9007199254740993:Int)) fun x3=>
 aG x3
def pG (a0:Int):Option (Bool) :=
 aA vB (decide ((-9007199254740992:Int)≤a0)) fun x1=>
 aA vB (decide (a0≤(9007199254740992:Int))) fun x2=>
 aA vB (bif x1 then x2 else false) fun x3=>
 aG x3
def wF (a0:Str):Option (Int × Int) :=
 aJ (fun x1=>.tup [vS x1.1,vB x1.2]) (fun x1=>[]) (kJ a0 ([45]:Str)) fun x1=>
 bQ (fun (x2:Nat × Int × Int × Int × Bool)=>[(5,vB x1.2),(6,vI x2.2.1),(7,vI x2.2.2.1),(8,vI x2.2.2.2.1),(9,vB x2.2.2.2.2),(18,.ptr 0 0)]) (fun (x2:Nat × Int × Int × Int × Bool)=>[.siter (bs x1.1) x2.1]) (fun (x2:Nat × Int × Int × Int × Bool)=>
 Cw x1.1 x2.1 (fun x3 x4=>
 aA vB (decide (x3=(46:Int))) fun x5=>
 aA vB (!x2.2.2.2.2) fun x6=>
 aA vB (bif x5 then x6 else false) fun x7=>
 aA vB (decide ((0:Int) < x2.2.2.1)) fun x8=>
 aA vB (bif x7 then x8 else false) fun x9=>
 aF x9 (
 aW (x4,x2.2.1,x2.2.2.1,x2.2.2.2.1,true)) (
 aA vB (decide (x3 < (48:Int))) fun x10=>
 aA vB (decide ((57:Int) < x3)) fun x11=>
 aA vB (bif x10 then true else x11) fun x12=>
 aF x12 (
 aQ<|
 aG ((0:Int),(1:Int))) (
 aA (vK .i32) (IntKind.i32.wrap (x3 - (48:Int))) fun x13=>
 aA vI (wI x13) fun x14=>
 aJ vI (fun x15=>[.siter (bs x1.1) x4]) (rO x2.2.1 x14) fun x15=>
 aF x2.2.2.2.2 (
 aA vI (wI (x2.2.2.2.1 + (1:Int))) fun x16=>
 aW (x4,x15,x2.2.2.1,x16,true)) (
 aA vI (wI (x2.2.2.1 + (1:Int))) fun x17=>
 aW (x4,x15,x17,x2.2.2.2.1,false))))) (
 aQ<|
 aA vB (decide (x2.2.2.1=(0:Int))) fun x18=>
 aA vB (decide ((3:Int) < x2.2.2.2.1)) fun x19=>
 aA vB (bif x18 then true else x19) fun x20=>
 aA vB (decide (x2.2.2.2.1=(0:Int))) fun x21=>
 aA vB (bif x2.2.2.2.2 then x21 else false) fun x22=>
 aA vB (bif x20 then true else x22) fun x23=>
 aF x23 (
 aG ((0:Int),(1:Int))) (
 aA vI (wI ((3:Int) - x2.2.2.2.1)) fun x24=>
 bQ (fun (x25:Int × Int)=>[(5,vB x1.2),(6,vI x25.1),(64,vI x24),(65,vI x25.2)]) (fun (x25:Int × Int)=>[]) (fun (x25:Int × Int)=>
 aA vB (decide (x25.2 < x24)) fun x26=>
 aF x26 (
 aJ vI (fun x27=>[]) (rO x25.1 (0:Int)) fun x27=>
 aA vI (wI (x25.2 + (1:Int))) fun x28=>
 aW (x27,x28)) (
 aQ<|
 aJ vB (fun x29=>[]) (pG x25.1) fun x29=>
 aA vB (!x29) fun x30=>
 aF x30 (
 aG ((0:Int),(2:Int))) (
 aF x1.2 (
 aA vI (wI (0 - x25.1)) fun x31=>
 aG (x31,(0:Int))) (
 aG (x25.1,(0:Int)))))) (x2.2.1,(0:Int))))) ((0:Nat),(0:Int),(0:Int),(0:Int),false)
def sX (a0:(List aN)) (a1:Int):Option (cG × Int × Int) :=
 aA vB (decide (a1 < (0:Int))) fun x1=>
 aF x1 (
 aG ((⟨(⟨([]:Str),([]:(List bS))⟩:cT),(0:Int),(0:Int)⟩:cG),(0:Int),(3:Int))) (
 bQ (fun (x2:Int × Int)=>[(0,sl aB a0),(1,vI x2.1),(4,.ptr 0 0),(7,vI x2.2)]) (fun (x2:Int × Int)=>[.box [vS ([]:Str),.v (.slice none 0 0),vI (0:Int),vI (0:Int)]]) (fun (x2:Int × Int)=>
 aJ vB (fun x3=>[.box [vS ([]:Str),.v (.slice none 0 0),vI (0:Int),vI (0:Int)]]) (sM a0 x2.1 ([40]:Str)) fun x3=>
 aF x3 (
 aA vB (decide (x2.2=(32:Int))) fun x4=>
 aF x4 (
 aQ<|
 aG ((⟨(⟨([]:Str),([]:(List bS))⟩:cT),(0:Int),(0:Int)⟩:cG),x2.1,(8:Int))) (
 aA vI (wI (x2.2 + (1:Int))) fun x5=>
 aA vI (wI (x2.1 + (1:Int))) fun x6=>
 aW (x6,x5))) (
 aQ<|
 aJ (fun x7=>.tup [(ag rI) x7.1,vI x7.2.1,vI x7.2.2]) (fun x7=>[.box [vS ([]:Str),.v (.slice none 0 0),vI (0:Int),vI (0:Int)]]) (wP a0 x2.1) fun x7=>
 aA vB (!decide (x7.2.2=(0:Int))) fun x8=>
 aF x8 (
 aG ((⟨(⟨([]:Str),([]:(List bS))⟩:cT),(0:Int),(0:Int)⟩:cG),x7.2.1,x7.2.2)) (
 bQ (fun (x9:Int × Int)=>[(0,sl aB a0),(1,vI x7.2.1),(4,.ptr 0 0),(7,vI x2.2),(10,.ptr 2 0),(41,.agg ((gl1.map cS).flatten.map .ofD)),(42,vI x9.2)]) (fun (x9:Int × Int)=>[.box [vS ([]:Str),.v (.slice none 0 0),vI (0:Int),vI (0:Int)],.dead,.box [vS x7.1.Name,sl aH x7.1.M,vI x9.1,vI (0:Int)]]) (fun (x9:Int × Int)=>
 aA vB (decide (x9.2 < (7:Int))) fun x10=>
 aF x10 (
 bM gl1 x9.2 fun x11=>
 aJ vB (fun x12=>[.box [vS ([]:Str),.v (.slice none 0 0),vI (0:Int),vI (0:Int)],.dead,.box [vS x7.1.Name,sl aH x7.1.M,vI x9.1,vI (0:Int)]]) (pA x9.2) fun x12=>
 aF x12 (
 aJ vB (fun x13=>[.box [vS ([]:Str),.v (.slice none 0 0),vI (0:Int),vI (0:Int)],.dead,.box [vS x7.1.Name,sl aH x7.1.M,vI x9.1,vI (0:Int)]]) (sM a0 x7.2.1 x11) fun x13=>
 aF x13 (
 aA vI (wI (x9.2 + (1:Int))) fun x14=>
 aW (x9.2,x14)) (
 aA vI (wI (x9.2 + (1:Int))) fun x15=>
 aW (x9.1,x15))) (
 aA vI (wI (x9.2 + (1:Int))) fun x16=>
 aW (x9.1,x16))) (
 aQ<|
 aA vB (decide (x9.1=(0:Int))) fun x17=>
 aF x17 (
 aJ vI (fun x18=>[.box [vS ([]:Str),.v (.slice none 0 0),vI (0:Int),vI (0:Int)],.dead,.box [vS x7.1.Name,sl aH x7.1.M,vI x9.1,vI (0:Int)]]) (kM a0 x7.2.1) fun x18=>
 aG ((⟨(⟨([]:Str),([]:(List bS))⟩:cT),(0:Int),(0:Int)⟩:cG),x7.2.1,x18)) (
 aA vI (wI (x7.2.1 + (1:Int))) fun x19=>
 aA vI ((a0.length:Int)) fun x20=>
 aA vB (decide (x20≤x19)) fun x21=>
 aF x21 (
 aJ vI (fun x22=>[.box [vS ([]:Str),.v (.slice none 0 0),vI (0:Int),vI (0:Int)],.dead,.box [vS x7.1.Name,sl aH x7.1.M,vI x9.1,vI (0:Int)]]) (kM a0 x19) fun x22=>
 aG ((⟨(⟨([]:Str),([]:(List bS))⟩:cT),(0:Int),(0:Int)⟩:cG),x19,x22)) (
 bM a0 x19 fun x23=>
 aA vB (!decide (x23.K=(2:Int))) fun x24=>
 aF x24 (
 aJ vI (fun x25=>[.box [vS ([]:Str),.v (.slice none 0 0),vI (0:Int),vI (0:Int)],.dead,.box [vS x7.1.Name,sl aH x7.1.M,vI x9.1,vI (0:Int)]]) (kM a0 x19) fun x25=>
 aG ((⟨(⟨([]:Str),([]:(List bS))⟩:cT),(0:Int),(0:Int)⟩:cG),x19,x25)) (
 aJ (fun x26=>.tup [vI x26.1,vI x26.2]) (fun x26=>[.box [vS ([]:Str),.v (.slice none 0 0),vI (0:Int),vI (0:Int)],.dead,.box [vS x7.1.Name,sl aH x7.1.M,vI x9.1,vI (0:Int)]]) (wF x23.S) fun x26=>
 aA vB (!decide (x26.2=(0:Int))) fun x27=>
 aF x27 (
 aG ((⟨(⟨([]:Str),([]:(List bS))⟩:cT),(0:Int),(0:Int)⟩:cG),x19,x26.2)) (
 aA vI (wI (x19 + (1:Int))) fun x28=>
 bQ (fun (x29:Int × Int)=>[(0,sl aB a0),(1,vI x29.1),(4,.ptr 0 0),(10,.ptr 2 0),(101,vI x2.2),(102,vI x29.2)]) (fun (x29:Int × Int)=>[.box [vS ([]:Str),.v (.slice none 0 0),vI (0:Int),vI (0:Int)],.dead,.box [vS x7.1.Name,sl aH x7.1.M,vI x9.1,vI x26.1]]) (fun (x29:Int × Int)=>
 aA vB (decide (x29.2 < x2.2)) fun x30=>
 aF x30 (
 aJ vB (fun x31=>[.box [vS ([]:Str),.v (.slice none 0 0),vI (0:Int),vI (0:Int)],.dead,.box [vS x7.1.Name,sl aH x7.1.M,vI x9.1,vI x26.1]]) (sM a0 x29.1 ([41]:Str)) fun x31=>
 aA vB (!x31) fun x32=>
 aF x32 (
 aJ vI (fun x33=>[.box [vS ([]:Str),.v (.slice none 0 0),vI (0:Int),vI (0:Int)],.dead,.box [vS x7.1.Name,sl aH x7.1.M,vI x9.1,vI x26.1]]) (kM a0 x29.1) fun x33=>
 aQ<|
 aG ((⟨(⟨([]:Str),([]:(List bS))⟩:cT),(0:Int),(0:Int)⟩:cG),x29.1,x33)) (
 aA vI (wI (x29.1 + (1:Int))) fun x34=>
 aA vI (wI (x29.2 + (1:Int))) fun x35=>
 aW (x34,x35))) (
 aQ<|
 aG ((⟨x7.1,x9.1,x26.1⟩:cG),x29.1,(0:Int)))) (x28,(0:Int)))))))) ((0:Int),(0:Int))))) (a1,(0:Int)))
def gS (a0:bD):Option (Int × bD) :=
 bV [0] [.box [sl aB a0.l,vI a0.i,vS a0.r.Name,vS a0.r.E.S.Name,sl aH a0.r.E.S.M,vI a0.r.E.Op,vI a0.r.E.V,vI a0.r.For,vI a0.r.Keep,sl aK a0.r.Labels]] (fun x1=>vB x1) (fun x1=>[.box [sl aB a0.l,vI a0.i,vS a0.r.Name,vS a0.r.E.S.Name,sl aH a0.r.E.S.M,vI a0.r.E.Op,vI a0.r.E.V,vI a0.r.For,vI a0.r.Keep,sl aK a0.r.Labels]]) (dU (2:Int) a0) fun x1=>
 aA vB (!x1) fun x2=>
 aF x2 (
 bV [0] [.box [sl aB a0.l,vI a0.i,vS a0.r.Name,vS a0.r.E.S.Name,sl aH a0.r.E.S.M,vI a0.r.E.Op,vI a0.r.E.V,vI a0.r.For,vI a0.r.Keep,sl aK a0.r.Labels]] (fun x3=>vI x3) (fun x3=>[.box [sl aB a0.l,vI a0.i,vS a0.r.Name,vS a0.r.E.S.Name,sl aH a0.r.E.S.M,vI a0.r.E.Op,vI a0.r.E.V,vI a0.r.For,vI a0.r.Keep,sl aK a0.r.Labels]]) (cN a0) fun x3=>
 aG (x3,a0)) (
 eN<|
 bM a0.l a0.i fun x4=>
 aJ (fun x5=>.tup [vI x5.1,vI x5.2]) (fun x5=>[.box [sl aB a0.l,vI a0.i,vS a0.r.Name,vS a0.r.E.S.Name,sl aH a0.r.E.S.M,vI a0.r.E.Op,vI a0.r.E.V,vI a0.r.For,vI a0.r.Keep,sl aK a0.r.Labels]]) (m8 x4.S) fun x5=>
 aA vB (!decide (x5.2=(0:Int))) fun x6=>
 aF x6 (
 aG (x5.2,a0)) (
 aA vI (wI (a0.i + (1:Int))) fun x7=>
 aG ((0:Int),(⟨a0.l,x7,(⟨a0.r.Name,a0.r.E,x5.1,a0.r.Keep,a0.r.Labels⟩:a6)⟩:bD))))
def iY (a0:bD):Option (Int × bD) :=
 sN [1] [0,4] [(false,0),(false,1),(false,2),(false,3),(false,4),(true,5),(false,6)]<|
 bV [1] [.box [.ptr 1 0],.box [sl aB a0.l,vI a0.i,vS a0.r.Name,vS a0.r.E.S.Name,sl aH a0.r.E.S.M,vI a0.r.E.Op,vI a0.r.E.V,vI a0.r.For,vI a0.r.Keep,sl aK a0.r.Labels]] (fun x1=>vI x1.1) (fun x1=>[.box [.ptr 1 0],.box [sl aB x1.2.l,vI x1.2.i,vS x1.2.r.Name,vS x1.2.r.E.S.Name,sl aH x1.2.r.E.S.M,vI x1.2.r.E.Op,vI x1.2.r.E.V,vI x1.2.r.For,vI x1.2.r.Keep,sl aK x1.2.r.Labels]]) (gS a0) fun x1=>
 aG (x1.1,x1.2)
def gE (a0:bD):Option (Int × bD) :=
 bV [0] [.box [sl aB a0.l,vI a0.i,vS a0.r.Name,vS a0.r.E.S.Name,sl aH a0.r.E.S.M,vI a0.r.E.Op,vI a0.r.E.V,vI a0.r.For,vI a0.r.Keep,sl aK a0.r.Labels]] (fun x1=>vB x1) (fun x1=>[.box [sl aB a0.l,vI a0.i,vS a0.r.Name,vS a0.r.E.S.Name,sl aH a0.r.E.S.M,vI a0.r.E.Op,vI a0.r.E.V,vI a0.r.For,vI a0.r.Keep,sl aK a0.r.Labels]]) (dU (2:Int) a0) fun x1=>
 aA vB (!x1) fun x2=>
 aF x2 (
 bV [0] [.box [sl aB a0.l,vI a0.i,vS a0.r.Name,vS a0.r.E.S.Name,sl aH a0.r.E.S.M,vI a0.r.E.Op,vI a0.r.E.V,vI a0.r.For,vI a0.r.Keep,sl aK a0.r.Labels]] (fun x3=>vI x3) (fun x3=>[.box [sl aB a0.l,vI a0.i,vS a0.r.Name,vS a0.r.E.S.Name,sl aH a0.r.E.S.M,vI a0.r.E.Op,vI a0.r.E.V,vI a0.r.For,vI a0.r.Keep,sl aK a0.r.Labels]]) (cN a0) fun x3=>
 aG (x3,a0)) (
 eN<|
 bM a0.l a0.i fun x4=>
 aJ (fun x5=>.tup [vI x5.1,vI x5.2]) (fun x5=>[.box [sl aB a0.l,vI a0.i,vS a0.r.Name,vS a0.r.E.S.Name,sl aH a0.r.E.S.M,vI a0.r.E.Op,vI a0.r.E.V,vI a0.r.For,vI a0.r.Keep,sl aK a0.r.Labels]]) (m8 x4.S) fun x5=>
 aA vB (!decide (x5.2=(0:Int))) fun x6=>
 aF x6 (
 aG (x5.2,a0)) (
 aA vI (wI (a0.i + (1:Int))) fun x7=>
 aG ((0:Int),(⟨a0.l,x7,(⟨a0.r.Name,a0.r.E,a0.r.For,x5.1,a0.r.Labels⟩:a6)⟩:bD))))
def iO (a0:bD):Option (Int × bD) :=
 sN [1] [0,4] [(false,0),(false,1),(false,2),(false,3),(false,4),(true,5),(false,6)]<|
 bV [1] [.box [.ptr 1 0],.box [sl aB a0.l,vI a0.i,vS a0.r.Name,vS a0.r.E.S.Name,sl aH a0.r.E.S.M,vI a0.r.E.Op,vI a0.r.E.V,vI a0.r.For,vI a0.r.Keep,sl aK a0.r.Labels]] (fun x1=>vI x1.1) (fun x1=>[.box [.ptr 1 0],.box [sl aB x1.2.l,vI x1.2.i,vS x1.2.r.Name,vS x1.2.r.E.S.Name,sl aH x1.2.r.E.S.M,vI x1.2.r.E.Op,vI x1.2.r.E.V,vI x1.2.r.For,vI x1.2.r.Keep,sl aK x1.2.r.Labels]]) (gE a0) fun x1=>
 aG (x1.1,x1.2)
def j3 (a0:bD):Option (aY × Int × bD) :=
 bV [0] [.box [sl aB a0.l,vI a0.i,vS a0.r.Name,vS a0.r.E.S.Name,sl aH a0.r.E.S.M,vI a0.r.E.Op,vI a0.r.E.V,vI a0.r.For,vI a0.r.Keep,sl aK a0.r.Labels],.box [vS ([]:Str),vS ([]:Str)]] (fun x1=>vB x1) (fun x1=>[.box [sl aB a0.l,vI a0.i,vS a0.r.Name,vS a0.r.E.S.Name,sl aH a0.r.E.S.M,vI a0.r.E.Op,vI a0.r.E.V,vI a0.r.For,vI a0.r.Keep,sl aK a0.r.Labels],.box [vS ([]:Str),vS ([]:Str)]]) (dU (1:Int) a0) fun x1=>
 aA vB (!x1) fun x2=>
 aF x2 (
 bV [0] [.box [sl aB a0.l,vI a0.i,vS a0.r.Name,vS a0.r.E.S.Name,sl aH a0.r.E.S.M,vI a0.r.E.Op,vI a0.r.E.V,vI a0.r.For,vI a0.r.Keep,sl aK a0.r.Labels],.box [vS ([]:Str),vS ([]:Str)]] (fun x3=>vI x3) (fun x3=>[.box [sl aB a0.l,vI a0.i,vS a0.r.Name,vS a0.r.E.S.Name,sl aH a0.r.E.S.M,vI a0.r.E.Op,vI a0.r.E.V,vI a0.r.For,vI a0.r.Keep,sl aK a0.r.Labels],.box [vS ([]:Str),vS ([]:Str)]]) (cN a0) fun x3=>
 aG ((⟨([]:Str),([]:Str)⟩:aY),x3,a0)) (
 bM a0.l a0.i fun x4=>
 aA vI (wI (a0.i + (1:Int))) fun x5=>
 bV [0] [.box [sl aB a0.l,vI x5,vS a0.r.Name,vS a0.r.E.S.Name,sl aH a0.r.E.S.M,vI a0.r.E.Op,vI a0.r.E.V,vI a0.r.For,vI a0.r.Keep,sl aK a0.r.Labels],.box [vS ([]:Str),vS ([]:Str)]] (fun x6=>vB x6.1) (fun x6=>[.box [sl aB x6.2.l,vI x6.2.i,vS x6.2.r.Name,vS x6.2.r.E.S.Name,sl aH x6.2.r.E.S.M,vI x6.2.r.E.Op,vI x6.2.r.E.V,vI x6.2.r.For,vI x6.2.r.Keep,sl aK x6.2.r.Labels],.box [vS ([]:Str),vS ([]:Str)]]) (cX (4:Int) ([61]:Str) (⟨a0.l,x5,a0.r⟩:bD)) fun x6=>
 aA vB (!x6.1) fun x7=>
 aF x7 (
 bV [0] [.box [sl aB x6.2.l,vI x6.2.i,vS x6.2.r.Name,vS x6.2.r.E.S.Name,sl aH x6.2.r.E.S.M,vI x6.2.r.E.Op,vI x6.2.r.E.V,vI x6.2.r.For,vI x6.2.r.Keep,sl aK x6.2.r.Labels],.box [vS ([]:Str),vS ([]:Str)]] (fun x8=>vI x8) (fun x8=>[.box [sl aB x6.2.l,vI x6.2.i,vS x6.2.r.Name,vS x6.2.r.E.S.Name,sl aH x6.2.r.E.S.M,vI x6.2.r.E.Op,vI x6.2.r.E.V,vI x6.2.r.For,vI x6.2.r.Keep,sl aK x6.2.r.Labels],.box [vS ([]:Str),vS ([]:Str)]]) (cN x6.2) fun x8=>
 aG ((⟨([]:Str),([]:Str)⟩:aY),x8,x6.2)) (
 bV [0] [.box [sl aB x6.2.l,vI x6.2.i,vS x6.2.r.Name,vS x6.2.r.E.S.Name,sl aH x6.2.r.E.S.M,vI x6.2.r.E.Op,vI x6.2.r.E.V,vI x6.2.r.For,vI x6.2.r.Keep,sl aK x6.2.r.Labels],.box [vS ([]:Str),vS ([]:Str)]] (fun x9=>vB x9) (fun x9=>[.box [sl aB x6.2.l,vI x6.2.i,vS x6.2.r.Name,vS x6.2.r.E.S.Name,sl aH x6.2.r.E.S.M,vI x6.2.r.E.Op,vI x6.2.r.E.V,vI x6.2.r.For,vI x6.2.r.Keep,sl aK x6.2.r.Labels],.box [vS ([]:Str),vS ([]:Str)]]) (dU (3:Int) x6.2) fun x9=>
 aA vB (!x9) fun x10=>
 aF x10 (
 bV [0] [.box [sl aB x6.2.l,vI x6.2.i,vS x6.2.r.Name,vS x6.2.r.E.S.Name,sl aH x6.2.r.E.S.M,vI x6.2.r.E.Op,vI x6.2.r.E.V,vI x6.2.r.For,vI x6.2.r.Keep,sl aK x6.2.r.Labels],.box [vS ([]:Str),vS ([]:Str)]] (fun x11=>vI x11) (fun x11=>[.box [sl aB x6.2.l,vI x6.2.i,vS x6.2.r.Name,vS x6.2.r.E.S.Name,sl aH x6.2.r.E.S.M,vI x6.2.r.E.Op,vI x6.2.r.E.V,vI x6.2.r.For,vI x6.2.r.Keep,sl aK x6.2.r.Labels],.box [vS ([]:Str),vS ([]:Str)]]) (cN x6.2) fun x11=>
 aG ((⟨([]:Str),([]:Str)⟩:aY),x11,x6.2)) (
 bM x6.2.l x6.2.i fun x12=>
 aA vI (wI (x6.2.i + (1:Int))) fun x13=>
 aG ((⟨x4.S,x12.S⟩:aY),(0:Int),(⟨x6.2.l,x13,x6.2.r⟩:bD)))))
def gN (a0:(List aY)):Option ((List aY)) :=
 Mr a0 (
 aG ([]:(List aY))) (
 Sj<|
 gdM ((([]:(List aY)).length + a0.length) * 32≤140737488355328)<|
 d7 (so 0 aK) (fun x1=>[tk x1.length 2 87]) (([]:(List aY)) ++ a0) fun x1=>
 aG x1)
def k8 (a0:Str):Option (Bool) :=
 aA vB (!decide (a0=a0)) fun x1=>
 aG x1
def j5 (a0:Str) (a1:Str):Option (Int) :=
 aJ vB (fun x1=>[]) (k8 a0) fun x1=>
 aJ vB (fun x2=>[]) (k8 a1) fun x2=>
 aF x1 (
 aF x2 (
 aG (0:Int)) (
 aG (-1:Int))) (
 aF x2 (
 aG (1:Int)) (
 aA vB (ltS a0 a1) fun x3=>
 aF x3 (
 aG (-1:Int)) (
 aA vB (ltS a1 a0) fun x4=>
 aF x4 (
 aG (1:Int)) (
 aG (0:Int)))))
def oW (a0:aY) (a1:aY):Option (Int) :=
 aJ vI (fun x1=>[.box [vS a0.Name,vS a0.Value],.box [vS a1.Name,vS a1.Value]]) (j5 a0.Name a1.Name) fun x1=>
 aG x1
def sW (a0:(List aY)):Option ((List aY) × Int) :=
 aA vI ((a0.length:Int)) fun x1=>
 aA vB (decide ((16:Int) < x1)) fun x2=>
 aF x2 (
 aG (([]:(List aY)),(4:Int))) (
 aA vI ((a0.length:Int)) fun x3=>
 bQ (fun (x4:Int)=>[(0,sl aK a0),(15,sl aK a0),(16,vI x3),(17,vI x4)]) (fun (x4:Int)=>[]) (fun (x4:Int)=>
 aA vB (decide (x4 < x3)) fun x5=>
 aF x5 (
 bM a0 x4 fun x6=>
 aA vI ((x6.Value.length:Int)) fun x7=>
 aA vB (decide ((64:Int) < x7)) fun x8=>
 aF x8 (
 aQ<|
 aG (([]:(List aY)),(4:Int))) (
 aA vI (wI (x4 + (1:Int))) fun x9=>
 aW x9)) (
 aQ<|
 aA vI ((a0.length:Int)) fun x10=>
 bQ (fun (x11:Int)=>[(0,sl aK a0),(26,sl aK a0),(27,vI x10),(28,vI x11)]) (fun (x11:Int)=>[]) (fun (x11:Int)=>
 aA vB (decide (x11 < x10)) fun x12=>
 aF x12 (
 bM a0 x11 fun x13=>
 aJ vB (fun x14=>[.box [vS x13.Name,vS x13.Value]]) (fR x13.Name) fun x14=>
 aA vB (!x14) fun x15=>
 aF x15 (
 aQ<|
 aG (([]:(List aY)),(7:Int))) (
 aA vI (wI (x11 + (1:Int))) fun x16=>
 aW x16)) (
 aQ<|
 d7 (fun _=>.map 0) (fun x17=>[.map (mp kS vB x17)]) ([]:(List (Str × Bool))) fun x17=>
 aA vI ((a0.length:Int)) fun x18=>
 bQ (fun (x19:(List (Str × Bool)) × Int)=>[(0,sl aK a0),(8,.map 0),(38,sl aK a0),(39,vI x18),(40,vI x19.2)]) (fun (x19:(List (Str × Bool)) × Int)=>[.map (mp kS vB x19.1)]) (fun (x19:(List (Str × Bool)) × Int)=>
 aA vB (decide (x19.2 < x18)) fun x20=>
 aF x20 (
 bM a0 x19.2 fun x21=>
 aA vB ((mlk x19.1 x21.Name).getD false) fun x22=>
 aF x22 (
 aQ<|
 aG (([]:(List aY)),(6:Int))) (
 d7 (fun _=>.any) (fun x23=>[.map (mp kS vB x23),.box [vS x21.Name,vS x21.Value]]) (mst x19.1 x21.Name true) fun x23=>
 aA vI (wI (x19.2 + (1:Int))) fun x24=>
 aW (x23,x24))) (
 aQ<|
 aJ (so 1 aK) (fun x25=>[.map (mp kS vB x19.1),tk x25.length 2 87]) (gN a0) fun x25=>
 K5 11<|
 EN oW x25 fun x26=>
 PC 11<|
 aG (x26,(0:Int)))) (x17,(0:Int)))) (0:Int))) (0:Int))
def oA (a0:Str):Option (Bool) :=
 aA vB (decide (a0=([95,95,110,97,109,101,95,95]:Str))) fun x1=>
 aA vB (decide (a0=([97,108,101,114,116,110,97,109,101]:Str))) fun x2=>
 aA vB (bif x1 then true else x2) fun x3=>
 aA vB (decide (a0=([97,108,101,114,116,115,116,97,116,101]:Str))) fun x4=>
 aA vB (bif x3 then true else x4) fun x5=>
 aG x5
def lQ (a0:(List aY)):Option (Bool) :=
 aA vI ((a0.length:Int)) fun x1=>
 bQ (fun (x2:Int)=>[(5,sl aK a0),(6,vI x1),(7,vI x2)]) (fun (x2:Int)=>[]) (fun (x2:Int)=>
 aA vB (decide (x2 < x1)) fun x3=>
 aF x3 (
 bM a0 x2 fun x4=>
 aJ vB (fun x5=>[.box [vS x4.Name,vS x4.Value]]) (oA x4.Name) fun x5=>
 aF x5 (
 aQ<|
 aG true) (
 aA vI (wI (x2 + (1:Int))) fun x6=>
 aW x6)) (
 aQ<|
 aG false)) (0:Int)
def iQ (a0:bD):Option (Int × bD) :=
 bV [0] [.box [sl aB a0.l,vI a0.i,vS a0.r.Name,vS a0.r.E.S.Name,sl aH a0.r.E.S.M,vI a0.r.E.Op,vI a0.r.E.V,vI a0.r.For,vI a0.r.Keep,sl aK a0.r.Labels]] (fun x1=>vB x1.1) (fun x1=>[.box [sl aB x1.2.l,vI x1.2.i,vS x1.2.r.Name,vS x1.2.r.E.S.Name,sl aH x1.2.r.E.S.M,vI x1.2.r.E.Op,vI x1.2.r.E.V,vI x1.2.r.For,vI x1.2.r.Keep,sl aK x1.2.r.Labels]]) (cX (4:Int) ([123]:Str) a0) fun x1=>
 aA vB (!x1.1) fun x2=>
 aF x2 (
 bV [0] [.box [sl aB x1.2.l,vI x1.2.i,vS x1.2.r.Name,vS x1.2.r.E.S.Name,sl aH x1.2.r.E.S.M,vI x1.2.r.E.Op,vI x1.2.r.E.V,vI x1.2.r.For,vI x1.2.r.Keep,sl aK x1.2.r.Labels]] (fun x3=>vI x3) (fun x3=>[.box [sl aB x1.2.l,vI x1.2.i,vS x1.2.r.Name,vS x1.2.r.E.S.Name,sl aH x1.2.r.E.S.M,vI x1.2.r.E.Op,vI x1.2.r.E.V,vI x1.2.r.For,vI x1.2.r.Keep,sl aK x1.2.r.Labels]]) (cN x1.2) fun x3=>
 aG (x3,x1.2)) (
 bV [0] [.box [sl aB x1.2.l,vI x1.2.i,vS x1.2.r.Name,vS x1.2.r.E.S.Name,sl aH x1.2.r.E.S.M,vI x1.2.r.E.Op,vI x1.2.r.E.V,vI x1.2.r.For,vI x1.2.r.Keep,sl aK x1.2.r.Labels]] (fun x4=>vB x4) (fun x4=>[.box [sl aB x1.2.l,vI x1.2.i,vS x1.2.r.Name,vS x1.2.r.E.S.Name,sl aH x1.2.r.E.S.M,vI x1.2.r.E.Op,vI x1.2.r.E.V,vI x1.2.r.For,vI x1.2.r.Keep,sl aK x1.2.r.Labels]]) (g8 (4:Int) ([125]:Str) x1.2) fun x4=>
 aA vB (!x4) fun x5=>
 uX 3 2 87<|
 bQ (fun (x6:(List aN) × Int × Str × Str × (List bS) × Int × Int × Int × Int × (List aY) × (List aY) × Bool)=>[(0,.ptr 0 0),(3,so 1 aK x6.2.2.2.2.2.2.2.2.2.2.1),(4,vB x6.2.2.2.2.2.2.2.2.2.2.2)]) (fun (x6:(List aN) × Int × Str × Str × (List bS) × Int × Int × Int × Int × (List aY) × (List aY) × Bool)=>[.box [sl aB x6.1,vI x6.2.1,vS x6.2.2.1,vS x6.2.2.2.1,sl aH x6.2.2.2.2.1,vI x6.2.2.2.2.2.1,vI x6.2.2.2.2.2.2.1,vI x6.2.2.2.2.2.2.2.1,vI x6.2.2.2.2.2.2.2.2.1,sl aK x6.2.2.2.2.2.2.2.2.2.1],tk x6.2.2.2.2.2.2.2.2.2.2.1.length 2 87]) (fun (x6:(List aN) × Int × Str × Str × (List bS) × Int × Int × Int × Int × (List aY) × (List aY) × Bool)=>
 aF x6.2.2.2.2.2.2.2.2.2.2.2 (
 bV [0] [.box [sl aB x6.1,vI x6.2.1,vS x6.2.2.1,vS x6.2.2.2.1,sl aH x6.2.2.2.2.1,vI x6.2.2.2.2.2.1,vI x6.2.2.2.2.2.2.1,vI x6.2.2.2.2.2.2.2.1,vI x6.2.2.2.2.2.2.2.2.1,sl aK x6.2.2.2.2.2.2.2.2.2.1],tk x6.2.2.2.2.2.2.2.2.2.2.1.length 2 87] (fun x7=>.tup [(ag aK) x7.1,vI x7.2.1]) (fun x7=>[.box [sl aB x7.2.2.l,vI x7.2.2.i,vS x7.2.2.r.Name,vS x7.2.2.r.E.S.Name,sl aH x7.2.2.r.E.S.M,vI x7.2.2.r.E.Op,vI x7.2.2.r.E.V,vI x7.2.2.r.For,vI x7.2.2.r.Keep,sl aK x7.2.2.r.Labels],tk x6.2.2.2.2.2.2.2.2.2.2.1.length 2 87]) (j3 (⟨x6.1,x6.2.1,(⟨x6.2.2.1,(⟨(⟨x6.2.2.2.1,x6.2.2.2.2.1⟩:cT),x6.2.2.2.2.2.1,x6.2.2.2.2.2.2.1⟩:cG),x6.2.2.2.2.2.2.2.1,x6.2.2.2.2.2.2.2.2.1,x6.2.2.2.2.2.2.2.2.2.1⟩:a6)⟩:bD)) fun x7=>
 aA vB (!decide (x7.2.1=(0:Int))) fun x8=>
 aF x8 (
 aQ<|
 aG (x7.2.1,x7.2.2)) (
 aA (sx aK) ([x7.1]:(List aY)) fun x9=>
 gdM ((x6.2.2.2.2.2.2.2.2.2.2.1.length + x9.length) * 32≤140737488355328)<|
 d7 (so 1 aK) (fun x10=>[.box [sl aB x7.2.2.l,vI x7.2.2.i,vS x7.2.2.r.Name,vS x7.2.2.r.E.S.Name,sl aH x7.2.2.r.E.S.M,vI x7.2.2.r.E.Op,vI x7.2.2.r.E.V,vI x7.2.2.r.For,vI x7.2.2.r.Keep,sl aK x7.2.2.r.Labels],tk x10.length 2 87,.box [vS x7.1.Name,vS x7.1.Value]]) (x6.2.2.2.2.2.2.2.2.2.2.1 ++ x9) fun x10=>
 bV [0] [.box [sl aB x7.2.2.l,vI x7.2.2.i,vS x7.2.2.r.Name,vS x7.2.2.r.E.S.Name,sl aH x7.2.2.r.E.S.M,vI x7.2.2.r.E.Op,vI x7.2.2.r.E.V,vI x7.2.2.r.For,vI x7.2.2.r.Keep,sl aK x7.2.2.r.Labels],tk x10.length 2 87,.box [vS x7.1.Name,vS x7.1.Value]] (fun x11=>vB x11.1) (fun x11=>[.box [sl aB x11.2.l,vI x11.2.i,vS x11.2.r.Name,vS x11.2.r.E.S.Name,sl aH x11.2.r.E.S.M,vI x11.2.r.E.Op,vI x11.2.r.E.V,vI x11.2.r.For,vI x11.2.r.Keep,sl aK x11.2.r.Labels],tk x10.length 2 87,.box [vS x7.1.Name,vS x7.1.Value]]) (cX (4:Int) ([44]:Str) x7.2.2) fun x11=>
 aW (x11.2.l,x11.2.i,x11.2.r.Name,x11.2.r.E.S.Name,x11.2.r.E.S.M,x11.2.r.E.Op,x11.2.r.E.V,x11.2.r.For,x11.2.r.Keep,x11.2.r.Labels,x10,x11.1))) (
 aQ<|
 bV [0] [.box [sl aB x6.1,vI x6.2.1,vS x6.2.2.1,vS x6.2.2.2.1,sl aH x6.2.2.2.2.1,vI x6.2.2.2.2.2.1,vI x6.2.2.2.2.2.2.1,vI x6.2.2.2.2.2.2.2.1,vI x6.2.2.2.2.2.2.2.2.1,sl aK x6.2.2.2.2.2.2.2.2.2.1],tk x6.2.2.2.2.2.2.2.2.2.2.1.length 2 87] (fun x12=>vB x12) (fun x12=>[.box [sl aB x6.1,vI x6.2.1,vS x6.2.2.1,vS x6.2.2.2.1,sl aH x6.2.2.2.2.1,vI x6.2.2.2.2.2.1,vI x6.2.2.2.2.2.2.1,vI x6.2.2.2.2.2.2.2.1,vI x6.2.2.2.2.2.2.2.2.1,sl aK x6.2.2.2.2.2.2.2.2.2.1],tk x6.2.2.2.2.2.2.2.2.2.2.1.length 2 87]) (g8 (4:Int) ([125]:Str) (⟨x6.1,x6.2.1,(⟨x6.2.2.1,(⟨(⟨x6.2.2.2.1,x6.2.2.2.2.1⟩:cT),x6.2.2.2.2.2.1,x6.2.2.2.2.2.2.1⟩:cG),x6.2.2.2.2.2.2.2.1,x6.2.2.2.2.2.2.2.2.1,x6.2.2.2.2.2.2.2.2.2.1⟩:a6)⟩:bD)) fun x12=>
 aA vB (!x12) fun x13=>
 aF x13 (
 bV [0] [.box [sl aB x6.1,vI x6.2.1,vS x6.2.2.1,vS x6.2.2.2.1,sl aH x6.2.2.2.2.1,vI x6.2.2.2.2.2.1,vI x6.2.2.2.2.2.2.1,vI x6.2.2.2.2.2.2.2.1,vI x6.2.2.2.2.2.2.2.2.1,sl aK x6.2.2.2.2.2.2.2.2.2.1],tk x6.2.2.2.2.2.2.2.2.2.2.1.length 2 87] (fun x14=>vI x14) (fun x14=>[.box [sl aB x6.1,vI x6.2.1,vS x6.2.2.1,vS x6.2.2.2.1,sl aH x6.2.2.2.2.1,vI x6.2.2.2.2.2.1,vI x6.2.2.2.2.2.2.1,vI x6.2.2.2.2.2.2.2.1,vI x6.2.2.2.2.2.2.2.2.1,sl aK x6.2.2.2.2.2.2.2.2.2.1],tk x6.2.2.2.2.2.2.2.2.2.2.1.length 2 87]) (cN (⟨x6.1,x6.2.1,(⟨x6.2.2.1,(⟨(⟨x6.2.2.2.1,x6.2.2.2.2.1⟩:cT),x6.2.2.2.2.2.1,x6.2.2.2.2.2.2.1⟩:cG),x6.2.2.2.2.2.2.2.1,x6.2.2.2.2.2.2.2.2.1,x6.2.2.2.2.2.2.2.2.2.1⟩:a6)⟩:bD)) fun x14=>
 aG (x14,(⟨x6.1,x6.2.1,(⟨x6.2.2.1,(⟨(⟨x6.2.2.2.1,x6.2.2.2.2.1⟩:cT),x6.2.2.2.2.2.1,x6.2.2.2.2.2.2.1⟩:cG),x6.2.2.2.2.2.2.2.1,x6.2.2.2.2.2.2.2.2.1,x6.2.2.2.2.2.2.2.2.2.1⟩:a6)⟩:bD))) (
 aJ (fun x15=>.tup [(sl aK) x15.1,vI x15.2]) (fun x15=>[.box [sl aB x6.1,vI x6.2.1,vS x6.2.2.1,vS x6.2.2.2.1,sl aH x6.2.2.2.2.1,vI x6.2.2.2.2.2.1,vI x6.2.2.2.2.2.2.1,vI x6.2.2.2.2.2.2.2.1,vI x6.2.2.2.2.2.2.2.2.1,sl aK x6.2.2.2.2.2.2.2.2.2.1],.tok x6.2.2.2.2.2.2.2.2.2.2.1.length 2 87 false]) (sW x6.2.2.2.2.2.2.2.2.2.2.1) fun x15=>
 aA vB (!decide (x15.2=(0:Int))) fun x16=>
 aF x16 (
 aG (x15.2,(⟨x6.1,x6.2.1,(⟨x6.2.2.1,(⟨(⟨x6.2.2.2.1,x6.2.2.2.2.1⟩:cT),x6.2.2.2.2.2.1,x6.2.2.2.2.2.2.1⟩:cG),x6.2.2.2.2.2.2.2.1,x6.2.2.2.2.2.2.2.2.1,x6.2.2.2.2.2.2.2.2.2.1⟩:a6)⟩:bD))) (
 aJ vB (fun x17=>[.box [sl aB x6.1,vI x6.2.1,vS x6.2.2.1,vS x6.2.2.2.1,sl aH x6.2.2.2.2.1,vI x6.2.2.2.2.2.1,vI x6.2.2.2.2.2.2.1,vI x6.2.2.2.2.2.2.2.1,vI x6.2.2.2.2.2.2.2.2.1,sl aK x6.2.2.2.2.2.2.2.2.2.1],.tok x6.2.2.2.2.2.2.2.2.2.2.1.length 2 87 false]) (lQ x15.1) fun x17=>
 aF x17 (
 aG ((7:Int),(⟨x6.1,x6.2.1,(⟨x6.2.2.1,(⟨(⟨x6.2.2.2.1,x6.2.2.2.2.1⟩:cT),x6.2.2.2.2.2.1,x6.2.2.2.2.2.2.1⟩:cG),x6.2.2.2.2.2.2.2.1,x6.2.2.2.2.2.2.2.2.1,x6.2.2.2.2.2.2.2.2.2.1⟩:a6)⟩:bD))) (
 aA vI (wI (x6.2.1 + (1:Int))) fun x18=>
 aG ((0:Int),(⟨x6.1,x18,(⟨x6.2.2.1,(⟨(⟨x6.2.2.2.1,x6.2.2.2.2.1⟩:cT),x6.2.2.2.2.2.1,x6.2.2.2.2.2.2.1⟩:cG),x6.2.2.2.2.2.2.2.1,x6.2.2.2.2.2.2.2.2.1,x15.1⟩:a6)⟩:bD))))))) (x1.2.l,x1.2.i,x1.2.r.Name,x1.2.r.E.S.Name,x1.2.r.E.S.M,x1.2.r.E.Op,x1.2.r.E.V,x1.2.r.For,x1.2.r.Keep,x1.2.r.Labels,([]:List aY),x5))
def iC (a0:bD):Option (Int × bD) :=
 bV [0] [.box [sl aB a0.l,vI a0.i,vS a0.r.Name,vS a0.r.E.S.Name,sl aH a0.r.E.S.M,vI a0.r.E.Op,vI a0.r.E.V,vI a0.r.For,vI a0.r.Keep,sl aK a0.r.Labels],.box [.ptr 0 0]] (fun x1=>vB x1.1) (fun x1=>[.box [sl aB x1.2.l,vI x1.2.i,vS x1.2.r.Name,vS x1.2.r.E.S.Name,sl aH x1.2.r.E.S.M,vI x1.2.r.E.Op,vI x1.2.r.E.V,vI x1.2.r.For,vI x1.2.r.Keep,sl aK x1.2.r.Labels],.box [.ptr 0 0]]) (cX (1:Int) ([114,117,108,101]:Str) a0) fun x1=>
 aA vB (!x1.1) fun x2=>
 aF x2 (
 bV [0] [.box [sl aB x1.2.l,vI x1.2.i,vS x1.2.r.Name,vS x1.2.r.E.S.Name,sl aH x1.2.r.E.S.M,vI x1.2.r.E.Op,vI x1.2.r.E.V,vI x1.2.r.For,vI x1.2.r.Keep,sl aK x1.2.r.Labels],.box [.ptr 0 0]] (fun x3=>vI x3) (fun x3=>[.box [sl aB x1.2.l,vI x1.2.i,vS x1.2.r.Name,vS x1.2.r.E.S.Name,sl aH x1.2.r.E.S.M,vI x1.2.r.E.Op,vI x1.2.r.E.V,vI x1.2.r.For,vI x1.2.r.Keep,sl aK x1.2.r.Labels],.box [.ptr 0 0]]) (cN x1.2) fun x3=>
 aG (x3,x1.2)) (
 bV [0] [.box [sl aB x1.2.l,vI x1.2.i,vS x1.2.r.Name,vS x1.2.r.E.S.Name,sl aH x1.2.r.E.S.M,vI x1.2.r.E.Op,vI x1.2.r.E.V,vI x1.2.r.For,vI x1.2.r.Keep,sl aK x1.2.r.Labels],.box [.ptr 0 0]] (fun x4=>vB x4) (fun x4=>[.box [sl aB x1.2.l,vI x1.2.i,vS x1.2.r.Name,vS x1.2.r.E.S.Name,sl aH x1.2.r.E.S.M,vI x1.2.r.E.Op,vI x1.2.r.E.V,vI x1.2.r.For,vI x1.2.r.Keep,sl aK x1.2.r.Labels],.box [.ptr 0 0]]) (dU (1:Int) x1.2) fun x4=>
 aA vB (!x4) fun x5=>
 aF x5 (
 bV [0] [.box [sl aB x1.2.l,vI x1.2.i,vS x1.2.r.Name,vS x1.2.r.E.S.Name,sl aH x1.2.r.E.S.M,vI x1.2.r.E.Op,vI x1.2.r.E.V,vI x1.2.r.For,vI x1.2.r.Keep,sl aK x1.2.r.Labels],.box [.ptr 0 0]] (fun x6=>vI x6) (fun x6=>[.box [sl aB x1.2.l,vI x1.2.i,vS x1.2.r.Name,vS x1.2.r.E.S.Name,sl aH x1.2.r.E.S.M,vI x1.2.r.E.Op,vI x1.2.r.E.V,vI x1.2.r.For,vI x1.2.r.Keep,sl aK x1.2.r.Labels],.box [.ptr 0 0]]) (cN x1.2) fun x6=>
 aG (x6,x1.2)) (
 H8 15<|
 bM x1.2.l x1.2.i fun x7=>
 aJ vB (fun x8=>[.box [sl aB x1.2.l,vI x1.2.i,vS x7.S,vS x1.2.r.E.S.Name,sl aH x1.2.r.E.S.M,vI x1.2.r.E.Op,vI x1.2.r.E.V,vI x1.2.r.For,vI x1.2.r.Keep,sl aK x1.2.r.Labels],.box [.ptr 0 0]]) (fR x7.S) fun x8=>
 aA vB (!x8) fun x9=>
 aF x9 (
 aG ((7:Int),(⟨x1.2.l,x1.2.i,(⟨x7.S,x1.2.r.E,x1.2.r.For,x1.2.r.Keep,x1.2.r.Labels⟩:a6)⟩:bD))) (
 aA vI (wI (x1.2.i + (1:Int))) fun x10=>
 bV [0] [.box [sl aB x1.2.l,vI x10,vS x7.S,vS x1.2.r.E.S.Name,sl aH x1.2.r.E.S.M,vI x1.2.r.E.Op,vI x1.2.r.E.V,vI x1.2.r.For,vI x1.2.r.Keep,sl aK x1.2.r.Labels],.box [.ptr 0 0]] (fun x11=>vB x11.1) (fun x11=>[.box [sl aB x11.2.l,vI x11.2.i,vS x11.2.r.Name,vS x11.2.r.E.S.Name,sl aH x11.2.r.E.S.M,vI x11.2.r.E.Op,vI x11.2.r.E.V,vI x11.2.r.For,vI x11.2.r.Keep,sl aK x11.2.r.Labels],.box [.ptr 0 0]]) (cX (4:Int) ([58]:Str) (⟨x1.2.l,x10,(⟨x7.S,x1.2.r.E,x1.2.r.For,x1.2.r.Keep,x1.2.r.Labels⟩:a6)⟩:bD)) fun x11=>
 aA vB (!x11.1) fun x12=>
 aF x12 (
 bV [0] [.box [sl aB x11.2.l,vI x11.2.i,vS x11.2.r.Name,vS x11.2.r.E.S.Name,sl aH x11.2.r.E.S.M,vI x11.2.r.E.Op,vI x11.2.r.E.V,vI x11.2.r.For,vI x11.2.r.Keep,sl aK x11.2.r.Labels],.box [.ptr 0 0]] (fun x13=>vI x13) (fun x13=>[.box [sl aB x11.2.l,vI x11.2.i,vS x11.2.r.Name,vS x11.2.r.E.S.Name,sl aH x11.2.r.E.S.M,vI x11.2.r.E.Op,vI x11.2.r.E.V,vI x11.2.r.For,vI x11.2.r.Keep,sl aK x11.2.r.Labels],.box [.ptr 0 0]]) (cN x11.2) fun x13=>
 aG (x13,x11.2)) (
 sN [0] [0,2,3,4,5,6,7,8,9,11,12,17] [(false,0),(false,1),(false,2),(false,3),(false,4),(false,5),(false,6),(false,7),(false,8),(false,9),(true,10),(false,11),(false,12),(false,13),(false,14),(false,15),(false,16),(false,17),(true,18),(false,19),(false,20),(true,21),(false,22)]<|
 aJ (fun x14=>.tup [(ag wC) x14.1,vI x14.2.1,vI x14.2.2]) (fun x14=>[.box [sl aB x11.2.l,vI x11.2.i,vS x11.2.r.Name,vS x11.2.r.E.S.Name,sl aH x11.2.r.E.S.M,vI x11.2.r.E.Op,vI x11.2.r.E.V,vI x11.2.r.For,vI x11.2.r.Keep,sl aK x11.2.r.Labels],.box [.ptr 0 0]]) (sX x11.2.l x11.2.i) fun x14=>
 aA vB (!decide (x14.2.2=(0:Int))) fun x15=>
 aF x15 (
 aG (x14.2.2,(⟨x11.2.l,x14.2.1,(⟨x11.2.r.Name,x14.1,x11.2.r.For,x11.2.r.Keep,x11.2.r.Labels⟩:a6)⟩:bD))) (
 bQ (fun (x16:(List aN) × Int × Str × Str × (List bS) × Int × Int × Int × Int × (List aY) × Int)=>[(1,.ptr 1 0),(83,.agg [vS ([102,111,114]:Str),.fn 129 [] [.ptr 1 0],vS ([107,101,101,112]:Str),.fn 131 [] [.ptr 1 0],vS ([108,97,98,101,108,115]:Str),.fn 132 [.ptr 0 0] []]),(84,vI x16.2.2.2.2.2.2.2.2.2.2)]) (fun (x16:(List aN) × Int × Str × Str × (List bS) × Int × Int × Int × Int × (List aY) × Int)=>[.box [sl aB x16.1,vI x16.2.1,vS x16.2.2.1,vS x16.2.2.2.1,sl aH x16.2.2.2.2.1,vI x16.2.2.2.2.2.1,vI x16.2.2.2.2.2.2.1,vI x16.2.2.2.2.2.2.2.1,vI x16.2.2.2.2.2.2.2.2.1,sl aK x16.2.2.2.2.2.2.2.2.2.1],.box [.ptr 0 0]]) (fun (x16:(List aN) × Int × Str × Str × (List bS) × Int × Int × Int × Int × (List aY) × Int)=>
 aA vB (decide (x16.2.2.2.2.2.2.2.2.2.2 < (3:Int))) fun x17=>
 aF x17 (
 Fd x16.2.2.2.2.2.2.2.2.2.2 (
 bV [0] [.box [sl aB x16.1,vI x16.2.1,vS x16.2.2.1,vS x16.2.2.2.1,sl aH x16.2.2.2.2.1,vI x16.2.2.2.2.2.1,vI x16.2.2.2.2.2.2.1,vI x16.2.2.2.2.2.2.2.1,vI x16.2.2.2.2.2.2.2.2.1,sl aK x16.2.2.2.2.2.2.2.2.2.1],.box [.ptr 0 0],.box [vS ([102,111,114]:Str),.fn 129 [] [.ptr 1 0]]] (fun x18=>vB x18.1) (fun x18=>[.box [sl aB x18.2.l,vI x18.2.i,vS x18.2.r.Name,vS x18.2.r.E.S.Name,sl aH x18.2.r.E.S.M,vI x18.2.r.E.Op,vI x18.2.r.E.V,vI x18.2.r.For,vI x18.2.r.Keep,sl aK x18.2.r.Labels],.box [.ptr 0 0],.box [vS ([102,111,114]:Str),.fn 129 [] [.ptr 1 0]]]) (cX (1:Int) ([102,111,114]:Str) (⟨x16.1,x16.2.1,(⟨x16.2.2.1,(⟨(⟨x16.2.2.2.1,x16.2.2.2.2.1⟩:cT),x16.2.2.2.2.2.1,x16.2.2.2.2.2.2.1⟩:cG),x16.2.2.2.2.2.2.2.1,x16.2.2.2.2.2.2.2.2.1,x16.2.2.2.2.2.2.2.2.2.1⟩:a6)⟩:bD)) fun x18=>
 aF x18.1 (
 bV [1,0] [.box [sl aB x18.2.l,vI x18.2.i,vS x18.2.r.Name,vS x18.2.r.E.S.Name,sl aH x18.2.r.E.S.M,vI x18.2.r.E.Op,vI x18.2.r.E.V,vI x18.2.r.For,vI x18.2.r.Keep,sl aK x18.2.r.Labels],.box [.ptr 0 0],.box [vS ([102,111,114]:Str),.fn 129 [] [.ptr 1 0]]] (fun x19=>vI x19.1) (fun x19=>[.box [sl aB x19.2.l,vI x19.2.i,vS x19.2.r.Name,vS x19.2.r.E.S.Name,sl aH x19.2.r.E.S.M,vI x19.2.r.E.Op,vI x19.2.r.E.V,vI x19.2.r.For,vI x19.2.r.Keep,sl aK x19.2.r.Labels],.box [.ptr 0 0],.box [vS ([102,111,114]:Str),.fn 129 [] [.ptr 1 0]]]) (iY x18.2) fun x19=>
 aA vB (!decide (x19.1=(0:Int))) fun x20=>
 aF x20 (
 aQ<|
 aG (x19.1,x19.2)) (
 aA vI (wI (x16.2.2.2.2.2.2.2.2.2.2 + (1:Int))) fun x21=>
 aW (x19.2.l,x19.2.i,x19.2.r.Name,x19.2.r.E.S.Name,x19.2.r.E.S.M,x19.2.r.E.Op,x19.2.r.E.V,x19.2.r.For,x19.2.r.Keep,x19.2.r.Labels,x21))) (
 aA vI (wI (x16.2.2.2.2.2.2.2.2.2.2 + (1:Int))) fun x22=>
 aW (x18.2.l,x18.2.i,x18.2.r.Name,x18.2.r.E.S.Name,x18.2.r.E.S.M,x18.2.r.E.Op,x18.2.r.E.V,x18.2.r.For,x18.2.r.Keep,x18.2.r.Labels,x22))) (
 bV [0] [.box [sl aB x16.1,vI x16.2.1,vS x16.2.2.1,vS x16.2.2.2.1,sl aH x16.2.2.2.2.1,vI x16.2.2.2.2.2.1,vI x16.2.2.2.2.2.2.1,vI x16.2.2.2.2.2.2.2.1,vI x16.2.2.2.2.2.2.2.2.1,sl aK x16.2.2.2.2.2.2.2.2.2.1],.box [.ptr 0 0],.box [vS ([107,101,101,112]:Str),.fn 131 [] [.ptr 1 0]]] (fun x23=>vB x23.1) (fun x23=>[.box [sl aB x23.2.l,vI x23.2.i,vS x23.2.r.Name,vS x23.2.r.E.S.Name,sl aH x23.2.r.E.S.M,vI x23.2.r.E.Op,vI x23.2.r.E.V,vI x23.2.r.For,vI x23.2.r.Keep,sl aK x23.2.r.Labels],.box [.ptr 0 0],.box [vS ([107,101,101,112]:Str),.fn 131 [] [.ptr 1 0]]]) (cX (1:Int) ([107,101,101,112]:Str) (⟨x16.1,x16.2.1,(⟨x16.2.2.1,(⟨(⟨x16.2.2.2.1,x16.2.2.2.2.1⟩:cT),x16.2.2.2.2.2.1,x16.2.2.2.2.2.2.1⟩:cG),x16.2.2.2.2.2.2.2.1,x16.2.2.2.2.2.2.2.2.1,x16.2.2.2.2.2.2.2.2.2.1⟩:a6)⟩:bD)) fun x23=>
 aF x23.1 (
 bV [1,0] [.box [sl aB x23.2.l,vI x23.2.i,vS x23.2.r.Name,vS x23.2.r.E.S.Name,sl aH x23.2.r.E.S.M,vI x23.2.r.E.Op,vI x23.2.r.E.V,vI x23.2.r.For,vI x23.2.r.Keep,sl aK x23.2.r.Labels],.box [.ptr 0 0],.box [vS ([107,101,101,112]:Str),.fn 131 [] [.ptr 1 0]]] (fun x24=>vI x24.1) (fun x24=>[.box [sl aB x24.2.l,vI x24.2.i,vS x24.2.r.Name,vS x24.2.r.E.S.Name,sl aH x24.2.r.E.S.M,vI x24.2.r.E.Op,vI x24.2.r.E.V,vI x24.2.r.For,vI x24.2.r.Keep,sl aK x24.2.r.Labels],.box [.ptr 0 0],.box [vS ([107,101,101,112]:Str),.fn 131 [] [.ptr 1 0]]]) (iO x23.2) fun x24=>
 aA vB (!decide (x24.1=(0:Int))) fun x25=>
 aF x25 (
 aQ<|
 aG (x24.1,x24.2)) (
 aA vI (wI (x16.2.2.2.2.2.2.2.2.2.2 + (1:Int))) fun x26=>
 aW (x24.2.l,x24.2.i,x24.2.r.Name,x24.2.r.E.S.Name,x24.2.r.E.S.M,x24.2.r.E.Op,x24.2.r.E.V,x24.2.r.For,x24.2.r.Keep,x24.2.r.Labels,x26))) (
 aA vI (wI (x16.2.2.2.2.2.2.2.2.2.2 + (1:Int))) fun x27=>
 aW (x23.2.l,x23.2.i,x23.2.r.Name,x23.2.r.E.S.Name,x23.2.r.E.S.M,x23.2.r.E.Op,x23.2.r.E.V,x23.2.r.For,x23.2.r.Keep,x23.2.r.Labels,x27))) (
 bV [0] [.box [sl aB x16.1,vI x16.2.1,vS x16.2.2.1,vS x16.2.2.2.1,sl aH x16.2.2.2.2.1,vI x16.2.2.2.2.2.1,vI x16.2.2.2.2.2.2.1,vI x16.2.2.2.2.2.2.2.1,vI x16.2.2.2.2.2.2.2.2.1,sl aK x16.2.2.2.2.2.2.2.2.2.1],.box [.ptr 0 0],.box [vS ([108,97,98,101,108,115]:Str),.fn 132 [.ptr 0 0] []]] (fun x28=>vB x28.1) (fun x28=>[.box [sl aB x28.2.l,vI x28.2.i,vS x28.2.r.Name,vS x28.2.r.E.S.Name,sl aH x28.2.r.E.S.M,vI x28.2.r.E.Op,vI x28.2.r.E.V,vI x28.2.r.For,vI x28.2.r.Keep,sl aK x28.2.r.Labels],.box [.ptr 0 0],.box [vS ([108,97,98,101,108,115]:Str),.fn 132 [.ptr 0 0] []]]) (cX (1:Int) ([108,97,98,101,108,115]:Str) (⟨x16.1,x16.2.1,(⟨x16.2.2.1,(⟨(⟨x16.2.2.2.1,x16.2.2.2.2.1⟩:cT),x16.2.2.2.2.2.1,x16.2.2.2.2.2.2.1⟩:cG),x16.2.2.2.2.2.2.2.1,x16.2.2.2.2.2.2.2.2.1,x16.2.2.2.2.2.2.2.2.2.1⟩:a6)⟩:bD)) fun x28=>
 aF x28.1 (
 bV [0] [.box [sl aB x28.2.l,vI x28.2.i,vS x28.2.r.Name,vS x28.2.r.E.S.Name,sl aH x28.2.r.E.S.M,vI x28.2.r.E.Op,vI x28.2.r.E.V,vI x28.2.r.For,vI x28.2.r.Keep,sl aK x28.2.r.Labels],.box [.ptr 0 0],.box [vS ([108,97,98,101,108,115]:Str),.fn 132 [.ptr 0 0] []]] (fun x29=>vI x29.1) (fun x29=>[.box [sl aB x29.2.l,vI x29.2.i,vS x29.2.r.Name,vS x29.2.r.E.S.Name,sl aH x29.2.r.E.S.M,vI x29.2.r.E.Op,vI x29.2.r.E.V,vI x29.2.r.For,vI x29.2.r.Keep,sl aK x29.2.r.Labels],.box [.ptr 0 0],.box [vS ([108,97,98,101,108,115]:Str),.fn 132 [.ptr 0 0] []]]) (iQ x28.2) fun x29=>
 aA vB (!decide (x29.1=(0:Int))) fun x30=>
 aF x30 (
 aQ<|
 aG (x29.1,x29.2)) (
 aA vI (wI (x16.2.2.2.2.2.2.2.2.2.2 + (1:Int))) fun x31=>
 aW (x29.2.l,x29.2.i,x29.2.r.Name,x29.2.r.E.S.Name,x29.2.r.E.S.M,x29.2.r.E.Op,x29.2.r.E.V,x29.2.r.For,x29.2.r.Keep,x29.2.r.Labels,x31))) (
 aA vI (wI (x16.2.2.2.2.2.2.2.2.2.2 + (1:Int))) fun x32=>
 aW (x28.2.l,x28.2.i,x28.2.r.Name,x28.2.r.E.S.Name,x28.2.r.E.S.M,x28.2.r.E.Op,x28.2.r.E.V,x28.2.r.For,x28.2.r.Keep,x28.2.r.Labels,x32)))) (
 aQ<|
 bV [0] [.box [sl aB x16.1,vI x16.2.1,vS x16.2.2.1,vS x16.2.2.2.1,sl aH x16.2.2.2.2.1,vI x16.2.2.2.2.2.1,vI x16.2.2.2.2.2.2.1,vI x16.2.2.2.2.2.2.2.1,vI x16.2.2.2.2.2.2.2.2.1,sl aK x16.2.2.2.2.2.2.2.2.2.1],.box [.ptr 0 0]] (fun x33=>vB x33.1) (fun x33=>[.box [sl aB x33.2.l,vI x33.2.i,vS x33.2.r.Name,vS x33.2.r.E.S.Name,sl aH x33.2.r.E.S.M,vI x33.2.r.E.Op,vI x33.2.r.E.V,vI x33.2.r.For,vI x33.2.r.Keep,sl aK x33.2.r.Labels],.box [.ptr 0 0]]) (cX (4:Int) ([59]:Str) (⟨x16.1,x16.2.1,(⟨x16.2.2.1,(⟨(⟨x16.2.2.2.1,x16.2.2.2.2.1⟩:cT),x16.2.2.2.2.2.1,x16.2.2.2.2.2.2.1⟩:cG),x16.2.2.2.2.2.2.2.1,x16.2.2.2.2.2.2.2.2.1,x16.2.2.2.2.2.2.2.2.2.1⟩:a6)⟩:bD)) fun x33=>
 aA vB (!x33.1) fun x34=>
 aF x34 (
 bV [0] [.box [sl aB x33.2.l,vI x33.2.i,vS x33.2.r.Name,vS x33.2.r.E.S.Name,sl aH x33.2.r.E.S.M,vI x33.2.r.E.Op,vI x33.2.r.E.V,vI x33.2.r.For,vI x33.2.r.Keep,sl aK x33.2.r.Labels],.box [.ptr 0 0]] (fun x35=>vI x35) (fun x35=>[.box [sl aB x33.2.l,vI x33.2.i,vS x33.2.r.Name,vS x33.2.r.E.S.Name,sl aH x33.2.r.E.S.M,vI x33.2.r.E.Op,vI x33.2.r.E.V,vI x33.2.r.For,vI x33.2.r.Keep,sl aK x33.2.r.Labels],.box [.ptr 0 0]]) (cN x33.2) fun x35=>
 aG (x35,x33.2)) (
 aG ((0:Int),x33.2)))) (x11.2.l,x14.2.1,x11.2.r.Name,x14.1.S.Name,x14.1.S.M,x14.1.Op,x14.1.V,x11.2.r.For,x11.2.r.Keep,x11.2.r.Labels,(0:Int)))))))
def nZ (a0:(List aN)) (a1:Int):Option (a6 × Int × Int) :=
 aA vB (decide (a1 < (0:Int))) fun x1=>
 aF x1 (
 aG ((⟨([]:Str),(⟨(⟨([]:Str),([]:(List bS))⟩:cT),(0:Int),(0:Int)⟩:cG),(0:Int),(0:Int),([]:(List aY))⟩:a6),(0:Int),(3:Int))) (
 aA vI ((a0.length:Int)) fun x2=>
 aA vI (min a1 x2) fun x3=>
 bV [1] [.box [vS ([]:Str),vS ([]:Str),.v (.slice none 0 0),vI (0:Int),vI (0:Int),vI (0:Int),vI (0:Int),.v (.slice none 0 0)],.box [sl aB a0,vI x3,vS ([]:Str),vS ([]:Str),sl aH ([]:List bS),vI (0:Int),vI (0:Int),vI (0:Int),vI (0:Int),sl aK ([]:List aY)]] (fun x4=>vI x4.1) (fun x4=>[.box [vS ([]:Str),vS ([]:Str),.v (.slice none 0 0),vI (0:Int),vI (0:Int),vI (0:Int),vI (0:Int),.v (.slice none 0 0)],.box [sl aB x4.2.l,vI x4.2.i,vS x4.2.r.Name,vS x4.2.r.E.S.Name,sl aH x4.2.r.E.S.M,vI x4.2.r.E.Op,vI x4.2.r.E.V,vI x4.2.r.For,vI x4.2.r.Keep,sl aK x4.2.r.Labels]]) (iC (⟨a0,x3,(⟨([]:Str),(⟨(⟨([]:Str),([]:(List bS))⟩:cT),(0:Int),(0:Int)⟩:cG),(0:Int),(0:Int),([]:(List aY))⟩:a6)⟩:bD)) fun x4=>
 aA vB (!decide (x4.1=(0:Int))) fun x5=>
 aF x5 (
 sN [0] [] [(false,1),(false,2),(false,3),(false,4),(false,5),(true,0),(true,6),(false,7),(false,8)]<|
 aG ((⟨([]:Str),(⟨(⟨([]:Str),([]:(List bS))⟩:cT),(0:Int),(0:Int)⟩:cG),(0:Int),(0:Int),([]:(List aY))⟩:a6),x4.2.i,x4.1)) (
 sN [0] [0,1,2,3] [(false,0),(false,1),(false,2),(false,3),(false,4),(false,5),(false,6),(false,7),(true,8),(false,9),(false,10)]<|
 aG (x4.2.r,x4.2.i,(0:Int))))
def jW (a0:(List a6)) (a1:Str):Option (Bool) :=
 aA vI ((a0.length:Int)) fun x1=>
 bQ (fun (x2:Int)=>[(1,vS a1),(7,sl bL a0),(8,vI x1),(9,vI x2)]) (fun (x2:Int)=>[]) (fun (x2:Int)=>
 aA vB (decide (x2 < x1)) fun x3=>
 aF x3 (
 bM a0 x2 fun x4=>
 aA vB (decide (x4.Name=a1)) fun x5=>
 aF x5 (
 aQ<|
 aG true) (
 aA vI (wI (x2 + (1:Int))) fun x6=>
 aW x6)) (
 aQ<|
 aG false)) (0:Int)
def lX (a0:(List a6)) (a1:(List aN)) (a2:Int) (a3:(List aI)):Option (Except Flt (a6 × Int)) :=
 vG (fun (x1:Unit)=>[(0,.ptr 0 0),(1,sl bL a0),(4,.ptr 1 0)]) (fun (x1:Unit)=>[.box [sl aB a1,vI a2,sl aD a3],.box [vS ([]:Str),vS ([]:Str),.v (.slice none 0 0),vI (0:Int),vI (0:Int),vI (0:Int),vI (0:Int),.v (.slice none 0 0)]]) (fun (x1:Unit)=>
 KX 14 13 5<|
 aJ (fun x5=>.tup [(ag bL) x5.1,vI x5.2.1,vI x5.2.2]) (fun x5=>[.box [sl aB a1,vI a2,sl aD a3],.box [vS ([]:Str),vS ([]:Str),.v (.slice none 0 0),vI (0:Int),vI (0:Int),vI (0:Int),vI (0:Int),.v (.slice none 0 0)]]) (nZ a1 a2) fun x5=>
 aA vB (!decide (x5.2.2=(0:Int))) fun x6=>
 aF x6 (
 kR<|
 cV (x5.2.1,x5.2.2)) (
 aJ vB (fun x7=>[.box [sl aB a1,vI a2,sl aD a3],.box [vS ([]:Str),vS ([]:Str),.v (.slice none 0 0),vI (0:Int),vI (0:Int),vI (0:Int),vI (0:Int),.v (.slice none 0 0)],.box [vS x5.1.Name,vS x5.1.E.S.Name,sl aH x5.1.E.S.M,vI x5.1.E.Op,vI x5.1.E.V,vI x5.1.For,vI x5.1.Keep,sl aK x5.1.Labels]]) (jW a0 x5.1.Name) fun x7=>
 aF x7 (
 aA vI (wI (a2 + (1:Int))) fun x8=>
 kR<|
 cV (x8,(6:Int))) (
 okM (x5.1,x5.2.1))))<|
 aA vI ((a0.length:Int)) fun x2=>
 aA vB (decide ((16:Int)≤x2)) fun x3=>
 aF x3 (
 bV [0] [.box [sl aB a1,vI a2,sl aD a3],.box [vS ([]:Str),vS ([]:Str),.v (.slice none 0 0),vI (0:Int),vI (0:Int),vI (0:Int),vI (0:Int),.v (.slice none 0 0)]] (fun x4=>vB x4) (fun x4=>[.box [sl aB a1,vI a2,sl aD a3],.box [vS ([]:Str),vS ([]:Str),.v (.slice none 0 0),vI (0:Int),vI (0:Int),vI (0:Int),vI (0:Int),.v (.slice none 0 0)]]) (nL (1:Int) ([114,117,108,101]:Str) a1 a2 a3) fun x4=>
 aF x4 (
 kR<|
 aQ<|
 cV (a2,(4:Int))) (
 aW ())) (
 aW ())
def uJ (a0:(List aN)) (a1:Int) (a2:(List aI)):Option (Except Flt (aI × Int)) :=
 eY [0] [.box [sl aB a0,vI a1,sl aD a2],.box [vS ([]:Str),vI (0:Int),vI (0:Int),.v (.slice none 0 0)]] (fun x1=>.tup []) (fun x1=>[.box [sl aB a0,vI x1,sl aD a2],.box [vS ([]:Str),vI (0:Int),vI (0:Int),.v (.slice none 0 0)]]) (iG (1:Int) ([103,114,111,117,112]:Str) a0 a1 a2) (fun x2=>
 cV x2) fun x1=>
 aA vI ((a2.length:Int)) fun x3=>
 aA vB (decide ((16:Int)≤x3)) fun x4=>
 aF x4 (
 aA vI (wI (x1 - (1:Int))) fun x5=>
 kR<|
 cV (x5,(4:Int))) (
 eY [0] [.box [sl aB a0,vI x1,sl aD a2],.box [vS ([]:Str),vI (0:Int),vI (0:Int),.v (.slice none 0 0)]] (fun x6=>vS x6.1) (fun x6=>[.box [sl aB a0,vI x6.2,sl aD a2],.box [vS ([]:Str),vI (0:Int),vI (0:Int),.v (.slice none 0 0)]]) (lU (1:Int) a0 x1 a2) (fun x7=>
 cV x7) fun x6=>
 aJ vB (fun x8=>[.box [sl aB a0,vI x6.2,sl aD a2],.box [vS ([]:Str),vI (0:Int),vI (0:Int),.v (.slice none 0 0)],.box [vS x6.1,vI (0:Int),vI (0:Int),.v (.slice none 0 0)]]) (fR x6.1) fun x8=>
 aA vB (!x8) fun x9=>
 aF x9 (
 aA vI (wI (x6.2 - (1:Int))) fun x10=>
 kR<|
 cV (x10,(7:Int))) (
 eN<|
 aJ vB (fun x11=>[.box [sl aB a0,vI x6.2,sl aD a2],.box [vS ([]:Str),vI (0:Int),vI (0:Int),.v (.slice none 0 0)],.box [vS x6.1,vI (0:Int),vI (0:Int),.v (.slice none 0 0)]]) (kF a2 x6.1) fun x11=>
 aF x11 (
 aA vI (wI (x6.2 - (1:Int))) fun x12=>
 kR<|
 cV (x12,(6:Int))) (
 eY [0] [.box [sl aB a0,vI x6.2,sl aD a2],.box [vS ([]:Str),vI (0:Int),vI (0:Int),.v (.slice none 0 0)],.box [vS x6.1,vI (0:Int),vI (0:Int),.v (.slice none 0 0)]] (fun x13=>.tup []) (fun x13=>[.box [sl aB a0,vI x13,sl aD a2],.box [vS ([]:Str),vI (0:Int),vI (0:Int),.v (.slice none 0 0)],.box [vS x6.1,vI (0:Int),vI (0:Int),.v (.slice none 0 0)]]) (iG (1:Int) ([101,118,101,114,121]:Str) a0 x6.2 a2) (fun x14=>
 cV x14) fun x13=>
 eY [0] [.box [sl aB a0,vI x13,sl aD a2],.box [vS ([]:Str),vI (0:Int),vI (0:Int),.v (.slice none 0 0)],.box [vS x6.1,vI (0:Int),vI (0:Int),.v (.slice none 0 0)]] (fun x15=>vI x15.1) (fun x15=>[.box [sl aB a0,vI x15.2,sl aD a2],.box [vS ([]:Str),vI (0:Int),vI (0:Int),.v (.slice none 0 0)],.box [vS x6.1,vI (0:Int),vI (0:Int),.v (.slice none 0 0)]]) (jP a0 x13 a2) (fun x16=>
 cV x16) fun x15=>
 aA vB (decide (x15.1=(0:Int))) fun x17=>
 aF x17 (
 aA vI (wI (x15.2 - (1:Int))) fun x18=>
 kR<|
 cV (x18,(2:Int))) (
 bV [0] [.box [sl aB a0,vI x15.2,sl aD a2],.box [vS ([]:Str),vI (0:Int),vI (0:Int),.v (.slice none 0 0)],.box [vS x6.1,vI x15.1,vI (0:Int),.v (.slice none 0 0)]] (fun x19=>vB x19.1) (fun x19=>[.box [sl aB a0,vI x19.2,sl aD a2],.box [vS ([]:Str),vI (0:Int),vI (0:Int),.v (.slice none 0 0)],.box [vS x6.1,vI x15.1,vI (0:Int),.v (.slice none 0 0)]]) (iH (1:Int) ([111,102,102,115,101,116]:Str) a0 x15.2 a2) fun x19=>
 aF x19.1 (
 eY [0] [.box [sl aB a0,vI x19.2,sl aD a2],.box [vS ([]:Str),vI (0:Int),vI (0:Int),.v (.slice none 0 0)],.box [vS x6.1,vI x15.1,vI (0:Int),.v (.slice none 0 0)]] (fun x20=>vI x20.1) (fun x20=>[.box [sl aB a0,vI x20.2,sl aD a2],.box [vS ([]:Str),vI (0:Int),vI (0:Int),.v (.slice none 0 0)],.box [vS x6.1,vI x15.1,vI (0:Int),.v (.slice none 0 0)]]) (jP a0 x19.2 a2) (fun x21=>
 cV x21) fun x20=>
 aA vB (decide (x15.1≤x20.1)) fun x22=>
 aF x22 (
 aA vI (wI (x20.2 - (1:Int))) fun x23=>
 kR<|
 cV (x23,(2:Int))) (
 eY [0] [.box [sl aB a0,vI x20.2,sl aD a2],.box [vS ([]:Str),vI (0:Int),vI (0:Int),.v (.slice none 0 0)],.box [vS x6.1,vI x15.1,vI x20.1,.v (.slice none 0 0)]] (fun x24=>.tup []) (fun x24=>[.box [sl aB a0,vI x24,sl aD a2],.box [vS ([]:Str),vI (0:Int),vI (0:Int),.v (.slice none 0 0)],.box [vS x6.1,vI x15.1,vI x20.1,.v (.slice none 0 0)]]) (iG (4:Int) ([123]:Str) a0 x20.2 a2) (fun x25=>
 cV x25) fun x24=>
 tokB 2 3 8 42<|
 shM 3<|
 bQ (fun (x26:Int × (List a6))=>[(0,.ptr 0 0),(2,.ptr 1 0),(3,.ptr 2 0)]) (fun (x26:Int × (List a6))=>[.box [sl aB a0,vI x26.1,sl aD a2],.box [vS ([]:Str),vI (0:Int),vI (0:Int),.v (.slice none 0 0)],.box [vS x6.1,vI x15.1,vI x20.1,so 3 bL x26.2],.tok x26.2.length 8 42 false]) (fun (x26:Int × (List a6))=>
 bV [0] [.box [sl aB a0,vI x26.1,sl aD a2],.box [vS ([]:Str),vI (0:Int),vI (0:Int),.v (.slice none 0 0)],.box [vS x6.1,vI x15.1,vI x20.1,so 3 bL x26.2],.tok x26.2.length 8 42 false] (fun x27=>vB x27.1) (fun x27=>[.box [sl aB a0,vI x27.2,sl aD a2],.box [vS ([]:Str),vI (0:Int),vI (0:Int),.v (.slice none 0 0)],.box [vS x6.1,vI x15.1,vI x20.1,so 3 bL x26.2],.tok x26.2.length 8 42 false]) (iH (4:Int) ([125]:Str) a0 x26.1 a2) fun x27=>
 aA vB (!x27.1) fun x28=>
 aF x28 (
 D3 [84,86,87,92] (.pf 0 (.pf 2 (.pf 3 (.nd 1 (.nd 4 (.nd 5 (.nd 6 (.nd 7 (.pf 8 (.nd 9 .lf .lf)) .lf) .lf) .lf) .lf) (.nd 4 (.nd 1 (.nd 5 (.nd 6 (.nd 7 (.pf 8 (.nd 9 .lf .lf)) .lf) .lf) .lf) (.nd 5 (.nd 1 (.nd 6 (.nd 7 (.pf 8 (.nd 9 .lf .lf)) .lf) .lf) (.nd 6 (.nd 1 (.nd 7 (.pf 8 (.nd 9 .lf .lf)) .lf) .lf) .lf)) .lf)) .lf)))))<|
 eY [0] [.box [sl aB a0,vI x27.2,sl aD a2],.box [vS ([]:Str),vI (0:Int),vI (0:Int),.v (.slice none 0 0)],.box [vS x6.1,vI x15.1,vI x20.1,so 3 bL x26.2],.tok x26.2.length 8 42 false] (fun x29=>(ag bL) x29.1) (fun x29=>[.box [sl aB a0,vI x29.2,sl aD a2],.box [vS ([]:Str),vI (0:Int),vI (0:Int),.v (.slice none 0 0)],.box [vS x6.1,vI x15.1,vI x20.1,so 3 bL x26.2],.tok x26.2.length 8 42 false]) (lX x26.2 a0 x27.2 a2) (fun x30=>
 aQ<|
 cV x30) fun x29=>
 aA (sx bL) ([x29.1]:(List a6)) fun x31=>
 gdM ((x26.2.length + x31.length) * 112≤140737488355328)<|
 d7 (so 3 bL) (fun x32=>[.box [sl aB a0,vI x29.2,sl aD a2],.box [vS ([]:Str),vI (0:Int),vI (0:Int),.v (.slice none 0 0)],.box [vS x6.1,vI x15.1,vI x20.1,so 3 bL x26.2],.tok x32.length 8 42 false]) (x26.2 ++ x31) fun x32=>
 aW (x29.2,x32)) (
 aQ<|
 okM ((⟨x6.1,x15.1,x20.1,x26.2⟩:aI),x27.2))) (x24,([]:List a6)))) (
 eY [0] [.box [sl aB a0,vI x19.2,sl aD a2],.box [vS ([]:Str),vI (0:Int),vI (0:Int),.v (.slice none 0 0)],.box [vS x6.1,vI x15.1,vI (0:Int),.v (.slice none 0 0)]] (fun x33=>.tup []) (fun x33=>[.box [sl aB a0,vI x33,sl aD a2],.box [vS ([]:Str),vI (0:Int),vI (0:Int),.v (.slice none 0 0)],.box [vS x6.1,vI x15.1,vI (0:Int),.v (.slice none 0 0)]]) (iG (4:Int) ([123]:Str) a0 x19.2 a2) (fun x34=>
 cV x34) fun x33=>
 tokB 2 3 8 42<|
 shM 3<|
 bQ (fun (x35:Int × (List a6))=>[(0,.ptr 0 0),(2,.ptr 1 0),(3,.ptr 2 0)]) (fun (x35:Int × (List a6))=>[.box [sl aB a0,vI x35.1,sl aD a2],.box [vS ([]:Str),vI (0:Int),vI (0:Int),.v (.slice none 0 0)],.box [vS x6.1,vI x15.1,vI (0:Int),so 3 bL x35.2],.tok x35.2.length 8 42 false]) (fun (x35:Int × (List a6))=>
 bV [0] [.box [sl aB a0,vI x35.1,sl aD a2],.box [vS ([]:Str),vI (0:Int),vI (0:Int),.v (.slice none 0 0)],.box [vS x6.1,vI x15.1,vI (0:Int),so 3 bL x35.2],.tok x35.2.length 8 42 false] (fun x36=>vB x36.1) (fun x36=>[.box [sl aB a0,vI x36.2,sl aD a2],.box [vS ([]:Str),vI (0:Int),vI (0:Int),.v (.slice none 0 0)],.box [vS x6.1,vI x15.1,vI (0:Int),so 3 bL x35.2],.tok x35.2.length 8 42 false]) (iH (4:Int) ([125]:Str) a0 x35.1 a2) fun x36=>
 aA vB (!x36.1) fun x37=>
 aF x37 (
 D3 [84,86,87,92] (.pf 0 (.pf 2 (.pf 3 (.nd 1 (.nd 4 (.nd 5 (.nd 6 (.nd 7 (.pf 8 (.nd 9 .lf .lf)) .lf) .lf) .lf) .lf) (.nd 4 (.nd 1 (.nd 5 (.nd 6 (.nd 7 (.pf 8 (.nd 9 .lf .lf)) .lf) .lf) .lf) (.nd 5 (.nd 1 (.nd 6 (.nd 7 (.pf 8 (.nd 9 .lf .lf)) .lf) .lf) (.nd 6 (.nd 1 (.nd 7 (.pf 8 (.nd 9 .lf .lf)) .lf) .lf) .lf)) .lf)) .lf)))))<|
 eY [0] [.box [sl aB a0,vI x36.2,sl aD a2],.box [vS ([]:Str),vI (0:Int),vI (0:Int),.v (.slice none 0 0)],.box [vS x6.1,vI x15.1,vI (0:Int),so 3 bL x35.2],.tok x35.2.length 8 42 false] (fun x38=>(ag bL) x38.1) (fun x38=>[.box [sl aB a0,vI x38.2,sl aD a2],.box [vS ([]:Str),vI (0:Int),vI (0:Int),.v (.slice none 0 0)],.box [vS x6.1,vI x15.1,vI (0:Int),so 3 bL x35.2],.tok x35.2.length 8 42 false]) (lX x35.2 a0 x36.2 a2) (fun x39=>
 aQ<|
 cV x39) fun x38=>
 aA (sx bL) ([x38.1]:(List a6)) fun x40=>
 gdM ((x35.2.length + x40.length) * 112≤140737488355328)<|
 d7 (so 3 bL) (fun x41=>[.box [sl aB a0,vI x38.2,sl aD a2],.box [vS ([]:Str),vI (0:Int),vI (0:Int),.v (.slice none 0 0)],.box [vS x6.1,vI x15.1,vI (0:Int),so 3 bL x35.2],.tok x41.length 8 42 false]) (x35.2 ++ x40) fun x41=>
 aW (x38.2,x41)) (
 aQ<|
 okM ((⟨x6.1,x15.1,(0:Int),x35.2⟩:aI),x36.2))) (x33,([]:List a6)))))))
def i8 (a0:Int) (a1:Str) (a2:(List aN)) (a3:Int) (a4:(List aI)):Option (Bool) :=
 aA vI ((a2.length:Int)) fun x1=>
 aA vB (decide (a3 < x1)) fun x2=>
 aF x2 (
 bM a2 a3 fun x3=>
 aA vB (decide (x3.K=a0)) fun x4=>
 aF x4 (
 aA vB (decide (x3.S=a1)) fun x5=>
 aG x5) (
 aG false)) (
 aG false)
def dG (a0:Int) (a1:Str) (a2:(List aN)) (a3:Int) (a4:(List aI)):Option (Bool × Int) :=
 bV [0,1] [.box [sl aB a2,vI a3,so 1 aD a4],.tok a4.length 4 34 false] (fun x1=>vB x1) (fun x1=>[.box [sl aB a2,vI a3,so 1 aD a4],.tok a4.length 4 34 false]) (i8 a0 a1 a2 a3 a4) fun x1=>
 aF x1 (
 aA vI (wI (a3 + (1:Int))) fun x2=>
 aG (true,x2)) (
 aG (false,a3))
def fB (a0:(List aN)) (a1:Int) (a2:(List aI)):Option (Except Flt (Unit)) :=
 aA vI ((a0.length:Int)) fun x1=>
 aA vB (decide (x1≤a1)) fun x2=>
 aF x2 (
 kR<|
 cV (a1,(3:Int))) (
 kR<|
 cV (a1,(1:Int)))
def cY (a0:Int) (a1:Str) (a2:(List aN)) (a3:Int) (a4:(List aI)):Option (Except Flt (Int)) :=
 bV [0,1] [.box [sl aB a2,vI a3,so 1 aD a4],.tok a4.length 4 34 false] (fun x1=>vB x1.1) (fun x1=>[.box [sl aB a2,vI x1.2,so 1 aD a4],.tok a4.length 4 34 false]) (dG a0 a1 a2 a3 a4) fun x1=>
 aA vB (!x1.1) fun x2=>
 aF x2 (
 eY [0,1] [.box [sl aB a2,vI x1.2,so 1 aD a4],.tok a4.length 4 34 false] (fun x3=>.tup []) (fun x3=>[.box [sl aB a2,vI x1.2,so 1 aD a4],.tok a4.length 4 34 false]) (fB a2 x1.2 a4) (fun x4=>
 cV x4) fun x3=>
 okM x1.2) (
 okM x1.2)
def gK (a0:Int) (a1:(List aN)) (a2:Int) (a3:(List aI)):Option (Except Flt (Str × Int)) :=
 aA vI ((a1.length:Int)) fun x1=>
 aA vB (decide (x1≤a2)) fun x2=>
 aF x2 (
 eY [0,1] [.box [sl aB a1,vI a2,so 1 aD a3],.tok a3.length 4 34 false] (fun x3=>.tup []) (fun x3=>[.box [sl aB a1,vI a2,so 1 aD a3],.tok a3.length 4 34 false]) (fB a1 a2 a3) (fun x4=>
 cV x4) fun x3=>
 aA vI (wI (a2 + (1:Int))) fun x5=>
 aA vI (wI (x5 - (1:Int))) fun x6=>
 bM a1 x6 fun x7=>
 okM (x7.S,x5)) (
 bM a1 a2 fun x8=>
 aA vB (!decide (x8.K=a0)) fun x9=>
 aF x9 (
 eY [0,1] [.box [sl aB a1,vI a2,so 1 aD a3],.tok a3.length 4 34 false] (fun x10=>.tup []) (fun x10=>[.box [sl aB a1,vI a2,so 1 aD a3],.tok a3.length 4 34 false]) (fB a1 a2 a3) (fun x11=>
 cV x11) fun x10=>
 aA vI (wI (a2 + (1:Int))) fun x12=>
 aA vI (wI (x12 - (1:Int))) fun x13=>
 bM a1 x13 fun x14=>
 okM (x14.S,x12)) (
 aA vI (wI (a2 + (1:Int))) fun x15=>
 aA vI (wI (x15 - (1:Int))) fun x16=>
 bM a1 x16 fun x17=>
 okM (x17.S,x15)))
def eT (a0:(List aN)) (a1:Int) (a2:(List aI)):Option (Except Flt (Int × Int)) :=
 eY [0,1] [.box [sl aB a0,vI a1,so 1 aD a2],.tok a2.length 4 34 false] (fun x1=>vS x1.1) (fun x1=>[.box [sl aB a0,vI x1.2,so 1 aD a2],.tok a2.length 4 34 false]) (gK (2:Int) a0 a1 a2) (fun x2=>
 cV x2) fun x1=>
 aJ (fun x3=>.tup [vI x3.1,vI x3.2]) (fun x3=>[.box [sl aB a0,vI x1.2,so 1 aD a2],.tok a2.length 4 34 false]) (m8 x1.1) fun x3=>
 aA vB (!decide (x3.2=(0:Int))) fun x4=>
 aF x4 (
 aA vI (wI (x1.2 - (1:Int))) fun x5=>
 kR<|
 cV (x5,x3.2)) (
 okM (x3.1,x1.2))
def gM (a0:(List a6)) (a1:(List aN)) (a2:Int) (a3:(List aI)):Option (Except Flt (a6 × Int)) :=
 vG (fun (x1:Unit)=>[(0,.ptr 0 0),(1,sl bL a0),(4,.ptr 2 0)]) (fun (x1:Unit)=>[.box [sl aB a1,vI a2,so 1 aD a3],.tok a3.length 4 34 false,.box [vS ([]:Str),vS ([]:Str),.v (.slice none 0 0),vI (0:Int),vI (0:Int),vI (0:Int),vI (0:Int),.v (.slice none 0 0)]]) (fun (x1:Unit)=>
 KX 14 13 5<|
 aJ (fun x5=>.tup [(ag bL) x5.1,vI x5.2.1,vI x5.2.2]) (fun x5=>[.box [sl aB a1,vI a2,so 1 aD a3],.tok a3.length 4 34 false,.box [vS ([]:Str),vS ([]:Str),.v (.slice none 0 0),vI (0:Int),vI (0:Int),vI (0:Int),vI (0:Int),.v (.slice none 0 0)]]) (nZ a1 a2) fun x5=>
 aA vB (!decide (x5.2.2=(0:Int))) fun x6=>
 aF x6 (
 kR<|
 cV (x5.2.1,x5.2.2)) (
 aJ vB (fun x7=>[.box [sl aB a1,vI a2,so 1 aD a3],.tok a3.length 4 34 false,.box [vS ([]:Str),vS ([]:Str),.v (.slice none 0 0),vI (0:Int),vI (0:Int),vI (0:Int),vI (0:Int),.v (.slice none 0 0)],.box [vS x5.1.Name,vS x5.1.E.S.Name,sl aH x5.1.E.S.M,vI x5.1.E.Op,vI x5.1.E.V,vI x5.1.For,vI x5.1.Keep,sl aK x5.1.Labels]]) (jW a0 x5.1.Name) fun x7=>
 aF x7 (
 aA vI (wI (a2 + (1:Int))) fun x8=>
 kR<|
 cV (x8,(6:Int))) (
 okM (x5.1,x5.2.1))))<|
 aA vI ((a0.length:Int)) fun x2=>
 aA vB (decide ((16:Int)≤x2)) fun x3=>
 aF x3 (
 bV [0,1] [.box [sl aB a1,vI a2,so 1 aD a3],.tok a3.length 4 34 false,.box [vS ([]:Str),vS ([]:Str),.v (.slice none 0 0),vI (0:Int),vI (0:Int),vI (0:Int),vI (0:Int),.v (.slice none 0 0)]] (fun x4=>vB x4) (fun x4=>[.box [sl aB a1,vI a2,so 1 aD a3],.tok a3.length 4 34 false,.box [vS ([]:Str),vS ([]:Str),.v (.slice none 0 0),vI (0:Int),vI (0:Int),vI (0:Int),vI (0:Int),.v (.slice none 0 0)]]) (i8 (1:Int) ([114,117,108,101]:Str) a1 a2 a3) fun x4=>
 aF x4 (
 kR<|
 aQ<|
 cV (a2,(4:Int))) (
 aW ())) (
 aW ())
def iT (a0:(List aN)) (a1:Int) (a2:(List aI)):Option (Except Flt (aI × Int)) :=
 eY [0,1] [.box [sl aB a0,vI a1,so 1 aD a2],.tok a2.length 4 34 false,.box [vS ([]:Str),vI (0:Int),vI (0:Int),.v (.slice none 0 0)]] (fun x1=>.tup []) (fun x1=>[.box [sl aB a0,vI x1,so 1 aD a2],.tok a2.length 4 34 false,.box [vS ([]:Str),vI (0:Int),vI (0:Int),.v (.slice none 0 0)]]) (cY (1:Int) ([103,114,111,117,112]:Str) a0 a1 a2) (fun x2=>
 cV x2) fun x1=>
 aA vI ((a2.length:Int)) fun x3=>
 aA vB (decide ((16:Int)≤x3)) fun x4=>
 aF x4 (
 aA vI (wI (x1 - (1:Int))) fun x5=>
 kR<|
 cV (x5,(4:Int))) (
 eY [0,1] [.box [sl aB a0,vI x1,so 1 aD a2],.tok a2.length 4 34 false,.box [vS ([]:Str),vI (0:Int),vI (0:Int),.v (.slice none 0 0)]] (fun x6=>vS x6.1) (fun x6=>[.box [sl aB a0,vI x6.2,so 1 aD a2],.tok a2.length 4 34 false,.box [vS ([]:Str),vI (0:Int),vI (0:Int),.v (.slice none 0 0)]]) (gK (1:Int) a0 x1 a2) (fun x7=>
 cV x7) fun x6=>
 aJ vB (fun x8=>[.box [sl aB a0,vI x6.2,so 1 aD a2],.tok a2.length 4 34 false,.box [vS ([]:Str),vI (0:Int),vI (0:Int),.v (.slice none 0 0)],.box [vS x6.1,vI (0:Int),vI (0:Int),.v (.slice none 0 0)]]) (fR x6.1) fun x8=>
 aA vB (!x8) fun x9=>
 aF x9 (
 aA vI (wI (x6.2 - (1:Int))) fun x10=>
 kR<|
 cV (x10,(7:Int))) (
 eN<|
 aJ vB (fun x11=>[.box [sl aB a0,vI x6.2,so 1 aD a2],.tok a2.length 4 34 false,.box [vS ([]:Str),vI (0:Int),vI (0:Int),.v (.slice none 0 0)],.box [vS x6.1,vI (0:Int),vI (0:Int),.v (.slice none 0 0)]]) (kF a2 x6.1) fun x11=>
 aF x11 (
 aA vI (wI (x6.2 - (1:Int))) fun x12=>
 kR<|
 cV (x12,(6:Int))) (
 eY [0,1] [.box [sl aB a0,vI x6.2,so 1 aD a2],.tok a2.length 4 34 false,.box [vS ([]:Str),vI (0:Int),vI (0:Int),.v (.slice none 0 0)],.box [vS x6.1,vI (0:Int),vI (0:Int),.v (.slice none 0 0)]] (fun x13=>.tup []) (fun x13=>[.box [sl aB a0,vI x13,so 1 aD a2],.tok a2.length 4 34 false,.box [vS ([]:Str),vI (0:Int),vI (0:Int),.v (.slice none 0 0)],.box [vS x6.1,vI (0:Int),vI (0:Int),.v (.slice none 0 0)]]) (cY (1:Int) ([101,118,101,114,121]:Str) a0 x6.2 a2) (fun x14=>
 cV x14) fun x13=>
 eY [0,1] [.box [sl aB a0,vI x13,so 1 aD a2],.tok a2.length 4 34 false,.box [vS ([]:Str),vI (0:Int),vI (0:Int),.v (.slice none 0 0)],.box [vS x6.1,vI (0:Int),vI (0:Int),.v (.slice none 0 0)]] (fun x15=>vI x15.1) (fun x15=>[.box [sl aB a0,vI x15.2,so 1 aD a2],.tok a2.length 4 34 false,.box [vS ([]:Str),vI (0:Int),vI (0:Int),.v (.slice none 0 0)],.box [vS x6.1,vI (0:Int),vI (0:Int),.v (.slice none 0 0)]]) (eT a0 x13 a2) (fun x16=>
 cV x16) fun x15=>
 aA vB (decide (x15.1=(0:Int))) fun x17=>
 aF x17 (
 aA vI (wI (x15.2 - (1:Int))) fun x18=>
 kR<|
 cV (x18,(2:Int))) (
 bV [0,1] [.box [sl aB a0,vI x15.2,so 1 aD a2],.tok a2.length 4 34 false,.box [vS ([]:Str),vI (0:Int),vI (0:Int),.v (.slice none 0 0)],.box [vS x6.1,vI x15.1,vI (0:Int),.v (.slice none 0 0)]] (fun x19=>vB x19.1) (fun x19=>[.box [sl aB a0,vI x19.2,so 1 aD a2],.tok a2.length 4 34 false,.box [vS ([]:Str),vI (0:Int),vI (0:Int),.v (.slice none 0 0)],.box [vS x6.1,vI x15.1,vI (0:Int),.v (.slice none 0 0)]]) (dG (1:Int) ([111,102,102,115,101,116]:Str) a0 x15.2 a2) fun x19=>
 aF x19.1 (
 eY [0,1] [.box [sl aB a0,vI x19.2,so 1 aD a2],.tok a2.length 4 34 false,.box [vS ([]:Str),vI (0:Int),vI (0:Int),.v (.slice none 0 0)],.box [vS x6.1,vI x15.1,vI (0:Int),.v (.slice none 0 0)]] (fun x20=>vI x20.1) (fun x20=>[.box [sl aB a0,vI x20.2,so 1 aD a2],.tok a2.length 4 34 false,.box [vS ([]:Str),vI (0:Int),vI (0:Int),.v (.slice none 0 0)],.box [vS x6.1,vI x15.1,vI (0:Int),.v (.slice none 0 0)]]) (eT a0 x19.2 a2) (fun x21=>
 cV x21) fun x20=>
 aA vB (decide (x15.1≤x20.1)) fun x22=>
 aF x22 (
 aA vI (wI (x20.2 - (1:Int))) fun x23=>
 kR<|
 cV (x23,(2:Int))) (
 eY [0,1] [.box [sl aB a0,vI x20.2,so 1 aD a2],.tok a2.length 4 34 false,.box [vS ([]:Str),vI (0:Int),vI (0:Int),.v (.slice none 0 0)],.box [vS x6.1,vI x15.1,vI x20.1,.v (.slice none 0 0)]] (fun x24=>.tup []) (fun x24=>[.box [sl aB a0,vI x24,so 1 aD a2],.tok a2.length 4 34 false,.box [vS ([]:Str),vI (0:Int),vI (0:Int),.v (.slice none 0 0)],.box [vS x6.1,vI x15.1,vI x20.1,.v (.slice none 0 0)]]) (cY (4:Int) ([123]:Str) a0 x20.2 a2) (fun x25=>
 cV x25) fun x24=>
 tokB 3 3 8 42<|
 shM 4<|
 bQ (fun (x26:Int × (List a6))=>[(0,.ptr 0 0),(2,.ptr 2 0),(3,.ptr 3 0)]) (fun (x26:Int × (List a6))=>[.box [sl aB a0,vI x26.1,so 1 aD a2],.tok a2.length 4 34 false,.box [vS ([]:Str),vI (0:Int),vI (0:Int),.v (.slice none 0 0)],.box [vS x6.1,vI x15.1,vI x20.1,so 4 bL x26.2],.tok x26.2.length 8 42 false]) (fun (x26:Int × (List a6))=>
 bV [0,1] [.box [sl aB a0,vI x26.1,so 1 aD a2],.tok a2.length 4 34 false,.box [vS ([]:Str),vI (0:Int),vI (0:Int),.v (.slice none 0 0)],.box [vS x6.1,vI x15.1,vI x20.1,so 4 bL x26.2],.tok x26.2.length 8 42 false] (fun x27=>vB x27.1) (fun x27=>[.box [sl aB a0,vI x27.2,so 1 aD a2],.tok a2.length 4 34 false,.box [vS ([]:Str),vI (0:Int),vI (0:Int),.v (.slice none 0 0)],.box [vS x6.1,vI x15.1,vI x20.1,so 4 bL x26.2],.tok x26.2.length 8 42 false]) (dG (4:Int) ([125]:Str) a0 x26.1 a2) fun x27=>
 aA vB (!x27.1) fun x28=>
 aF x28 (
 D3 [84,86,87,92] (.pf 0 (.pf 2 (.pf 3 (.nd 1 (.nd 4 (.nd 5 (.nd 6 (.nd 7 (.pf 8 (.nd 9 .lf .lf)) .lf) .lf) .lf) .lf) (.nd 4 (.nd 1 (.nd 5 (.nd 6 (.nd 7 (.pf 8 (.nd 9 .lf .lf)) .lf) .lf) .lf) (.nd 5 (.nd 1 (.nd 6 (.nd 7 (.pf 8 (.nd 9 .lf .lf)) .lf) .lf) (.nd 6 (.nd 1 (.nd 7 (.pf 8 (.nd 9 .lf .lf)) .lf) .lf) .lf)) .lf)) .lf)))))<|
 eY [0,1] [.box [sl aB a0,vI x27.2,so 1 aD a2],.tok a2.length 4 34 false,.box [vS ([]:Str),vI (0:Int),vI (0:Int),.v (.slice none 0 0)],.box [vS x6.1,vI x15.1,vI x20.1,so 4 bL x26.2],.tok x26.2.length 8 42 false] (fun x29=>(ag bL) x29.1) (fun x29=>[.box [sl aB a0,vI x29.2,so 1 aD a2],.tok a2.length 4 34 false,.box [vS ([]:Str),vI (0:Int),vI (0:Int),.v (.slice none 0 0)],.box [vS x6.1,vI x15.1,vI x20.1,so 4 bL x26.2],.tok x26.2.length 8 42 false]) (gM x26.2 a0 x27.2 a2) (fun x30=>
 aQ<|
 cV x30) fun x29=>
 aA (sx bL) ([x29.1]:(List a6)) fun x31=>
 gdM ((x26.2.length + x31.length) * 112≤140737488355328)<|
 d7 (so 4 bL) (fun x32=>[.box [sl aB a0,vI x29.2,so 1 aD a2],.tok a2.length 4 34 false,.box [vS ([]:Str),vI (0:Int),vI (0:Int),.v (.slice none 0 0)],.box [vS x6.1,vI x15.1,vI x20.1,so 4 bL x26.2],.tok x32.length 8 42 false]) (x26.2 ++ x31) fun x32=>
 aW (x29.2,x32)) (
 aQ<|
 okM ((⟨x6.1,x15.1,x20.1,x26.2⟩:aI),x27.2))) (x24,([]:List a6)))) (
 eY [0,1] [.box [sl aB a0,vI x19.2,so 1 aD a2],.tok a2.length 4 34 false,.box [vS ([]:Str),vI (0:Int),vI (0:Int),.v (.slice none 0 0)],.box [vS x6.1,vI x15.1,vI (0:Int),.v (.slice none 0 0)]] (fun x33=>.tup []) (fun x33=>[.box [sl aB a0,vI x33,so 1 aD a2],.tok a2.length 4 34 false,.box [vS ([]:Str),vI (0:Int),vI (0:Int),.v (.slice none 0 0)],.box [vS x6.1,vI x15.1,vI (0:Int),.v (.slice none 0 0)]]) (cY (4:Int) ([123]:Str) a0 x19.2 a2) (fun x34=>
 cV x34) fun x33=>
 tokB 3 3 8 42<|
 shM 4<|
 bQ (fun (x35:Int × (List a6))=>[(0,.ptr 0 0),(2,.ptr 2 0),(3,.ptr 3 0)]) (fun (x35:Int × (List a6))=>[.box [sl aB a0,vI x35.1,so 1 aD a2],.tok a2.length 4 34 false,.box [vS ([]:Str),vI (0:Int),vI (0:Int),.v (.slice none 0 0)],.box [vS x6.1,vI x15.1,vI (0:Int),so 4 bL x35.2],.tok x35.2.length 8 42 false]) (fun (x35:Int × (List a6))=>
 bV [0,1] [.box [sl aB a0,vI x35.1,so 1 aD a2],.tok a2.length 4 34 false,.box [vS ([]:Str),vI (0:Int),vI (0:Int),.v (.slice none 0 0)],.box [vS x6.1,vI x15.1,vI (0:Int),so 4 bL x35.2],.tok x35.2.length 8 42 false] (fun x36=>vB x36.1) (fun x36=>[.box [sl aB a0,vI x36.2,so 1 aD a2],.tok a2.length 4 34 false,.box [vS ([]:Str),vI (0:Int),vI (0:Int),.v (.slice none 0 0)],.box [vS x6.1,vI x15.1,vI (0:Int),so 4 bL x35.2],.tok x35.2.length 8 42 false]) (dG (4:Int) ([125]:Str) a0 x35.1 a2) fun x36=>
 aA vB (!x36.1) fun x37=>
 aF x37 (
 D3 [84,86,87,92] (.pf 0 (.pf 2 (.pf 3 (.nd 1 (.nd 4 (.nd 5 (.nd 6 (.nd 7 (.pf 8 (.nd 9 .lf .lf)) .lf) .lf) .lf) .lf) (.nd 4 (.nd 1 (.nd 5 (.nd 6 (.nd 7 (.pf 8 (.nd 9 .lf .lf)) .lf) .lf) .lf) (.nd 5 (.nd 1 (.nd 6 (.nd 7 (.pf 8 (.nd 9 .lf .lf)) .lf) .lf) (.nd 6 (.nd 1 (.nd 7 (.pf 8 (.nd 9 .lf .lf)) .lf) .lf) .lf)) .lf)) .lf)))))<|
 eY [0,1] [.box [sl aB a0,vI x36.2,so 1 aD a2],.tok a2.length 4 34 false,.box [vS ([]:Str),vI (0:Int),vI (0:Int),.v (.slice none 0 0)],.box [vS x6.1,vI x15.1,vI (0:Int),so 4 bL x35.2],.tok x35.2.length 8 42 false] (fun x38=>(ag bL) x38.1) (fun x38=>[.box [sl aB a0,vI x38.2,so 1 aD a2],.tok a2.length 4 34 false,.box [vS ([]:Str),vI (0:Int),vI (0:Int),.v (.slice none 0 0)],.box [vS x6.1,vI x15.1,vI (0:Int),so 4 bL x35.2],.tok x35.2.length 8 42 false]) (gM x35.2 a0 x36.2 a2) (fun x39=>
 aQ<|
 cV x39) fun x38=>
 aA (sx bL) ([x38.1]:(List a6)) fun x40=>
 gdM ((x35.2.length + x40.length) * 112≤140737488355328)<|
 d7 (so 4 bL) (fun x41=>[.box [sl aB a0,vI x38.2,so 1 aD a2],.tok a2.length 4 34 false,.box [vS ([]:Str),vI (0:Int),vI (0:Int),.v (.slice none 0 0)],.box [vS x6.1,vI x15.1,vI (0:Int),so 4 bL x35.2],.tok x41.length 8 42 false]) (x35.2 ++ x40) fun x41=>
 aW (x38.2,x41)) (
 aQ<|
 okM ((⟨x6.1,x15.1,(0:Int),x35.2⟩:aI),x36.2))) (x33,([]:List a6)))))))
def m6 (z:Flt) (a0:Str) (a1:(List aI)) (a2:Int) (a3:Int) (a4:(List aN)):Option ((List aI) × Int × Int) :=
 M7<|
 M7<|
 sN [1,2,3] [0] [(false,0),(false,1),(false,2),(false,3),(true,4),(true,5),(true,6)]<|
 aA vI ((a0.length:Int)) fun x1=>
 aA vI ((a4.length:Int)) fun x2=>
 aA vB (decide (z.1 < x2)) fun x3=>
 aF x3 (
 bM a4 z.1 fun x4=>
 aG (([]:(List aI)),x4.At,z.2)) (
 aG (([]:(List aI)),x1,z.2))
def kT (a0:Str):Option ((List aI) × Int × Int) :=
 aJ (fun x1=>.tup [(sl aB) x1.1,vI x1.2.1,vI x1.2.2]) (fun x1=>[.box [vS a0],.box [.v (.slice none 0 0)],.box [vI (0:Int)],.box [vI (0:Int)]]) (m4 a0) fun x1=>
 aA vB (!decide (x1.2.2=(0:Int))) fun x2=>
 aF x2 (
 D3 [] (.nd 0 (.nd 1 (.nd 2 (.nd 3 (.nd 4 .lf .lf) .lf) .lf) (.nd 2 (.nd 1 (.nd 3 (.nd 4 .lf .lf) .lf) (.nd 3 (.nd 1 (.nd 4 .lf .lf) .lf) .lf)) .lf)) (.nd 1 (.nd 0 (.nd 2 (.nd 3 (.nd 4 .lf .lf) .lf) .lf) (.nd 2 (.nd 0 (.nd 3 (.nd 4 .lf .lf) .lf) .lf) .lf)) (.nd 2 (.nd 0 (.nd 1 (.nd 3 (.nd 4 .lf .lf) .lf) (.nd 3 (.nd 1 (.nd 4 .lf .lf) .lf) .lf)) (.nd 1 (.nd 0 (.nd 3 (.nd 4 .lf .lf) .lf) .lf) .lf)) .lf)))<|
 aG (([]:(List aI)),x1.2.1,x1.2.2)) (
 S9 1 5<|
 tokB 5 2 4 34<|
 shM 6<|
 bQ (fun (x3:Int × (List aI))=>[(1,.ptr 0 0),(2,.ptr 1 0),(3,.ptr 2 0),(4,.ptr 3 0),(5,.ptr 4 0),(6,.ptr 5 0)]) (fun (x3:Int × (List aI))=>[.box [vS a0],.box [.v (.slice none 0 0)],.box [vI x1.2.1],.box [vI x1.2.2],.box [sl aB x1.1],.box [sl aB x1.1,vI x3.1,so 6 aD x3.2],.tok x3.2.length 4 34 false]) (fun (x3:Int × (List aI))=>
 aA vI ((x1.1.length:Int)) fun x4=>
 aA vB (decide (x3.1 < x4)) fun x5=>
 aF x5 (
 D3 [28,29,30,31,33,37,38] (.pf 0 (.pf 1 (.pf 2 (.pf 3 (.pf 5 (.nd 4 (.nd 6 (.nd 7 (.nd 8 (.pf 9 (.pf 10 (.nd 11 .lf .lf))) .lf) .lf) .lf) (.nd 6 (.nd 4 (.nd 7 (.nd 8 (.pf 9 (.pf 10 (.nd 11 .lf .lf))) .lf) .lf) (.nd 7 (.nd 4 (.nd 8 (.pf 9 (.pf 10 (.nd 11 .lf .lf))) .lf) .lf) .lf)) .lf)))))))<|
 eY [5,6] [.box [vS a0],.box [.v (.slice none 0 0)],.box [vI x1.2.1],.box [vI x1.2.2],.box [sl aB x1.1],.box [sl aB x1.1,vI x3.1,so 6 aD x3.2],.tok x3.2.length 4 34 false] (fun x6=>(ag aD) x6.1) (fun x6=>[.box [vS a0],.box [.v (.slice none 0 0)],.box [vI x1.2.1],.box [vI x1.2.2],.box [sl aB x1.1],.box [sl aB x1.1,vI x6.2,so 6 aD x3.2],.tok x3.2.length 4 34 false]) (iT x1.1 x3.1 x3.2) (fun x7=>
 aQ<|
 Qc [(2,.ptr 1 0),(3,.ptr 2 0),(4,.ptr 3 0)] [.box [vS a0],.box [sl aD ([]:List aI)],.box [vI x1.2.1],.box [vI x1.2.2],.box [sl aB x1.1]] (m6 x7 a0 ([]:List aI) x1.2.1 x1.2.2 x1.1) fun x8=>
 aG (x8.1,x8.2.1,x8.2.2)) fun x6=>
 aA (sx aD) ([x6.1]:(List aI)) fun x9=>
 gdM ((x3.2.length + x9.length) * 56≤140737488355328)<|
 d7 (so 6 aD) (fun x10=>[.box [vS a0],.box [.v (.slice none 0 0)],.box [vI x1.2.1],.box [vI x1.2.2],.box [sl aB x1.1],.box [sl aB x1.1,vI x6.2,so 6 aD x3.2],.tok x10.length 4 34 false]) (x3.2 ++ x9) fun x10=>
 aW (x6.2,x10)) (
 aQ<|
 sN [1,2,3] [0,1,2,3] [(false,0),(false,1),(false,2),(false,3),(false,4),(false,5),(true,6),(true,7),(true,8)]<|
 aA vI ((a0.length:Int)) fun x11=>
 aG (x3.2,x11,(0:Int)))) ((0:Int),([]:List aI)))
def uN (a0:cT):Option (Bool) :=
 aJ vB (fun x1=>[.box [vS a0.Name,sl aH a0.M]]) (fR a0.Name) fun x1=>
 aA vB (!x1) fun x2=>
 aF x2 (
 aG false) (
 aA vI ((a0.M.length:Int)) fun x3=>
 aA vB (decide ((8:Int) < x3)) fun x4=>
 aF x4 (
 aG false) (
 aA vI ((a0.M.length:Int)) fun x5=>
 bQ (fun (x6:Int)=>[(16,sl aH a0.M),(17,vI x5),(18,vI x6)]) (fun (x6:Int)=>[]) (fun (x6:Int)=>
 aA vB (decide (x6 < x5)) fun x7=>
 aF x7 (
 bM a0.M x6 fun x8=>
 aJ vB (fun x9=>[.box [vS x8.Name,vS x8.Value,vB x8.Not]]) (fR x8.Name) fun x9=>
 aA vB (!x9) fun x10=>
 aF x10 (
 aQ<|
 aG false) (
 aA vI ((x8.Value.length:Int)) fun x11=>
 aA vB (decide ((64:Int) < x11)) fun x12=>
 aF x12 (
 aQ<|
 aG false) (
 aA vI (wI (x6 + (1:Int))) fun x13=>
 aW x13))) (
 aQ<|
 aG true)) (0:Int)))
def sK (a0:cG):Option (Bool) :=
 aJ vB (fun x1=>[.box [vS a0.S.Name,sl aH a0.S.M,vI a0.Op,vI a0.V]]) (uN a0.S) fun x1=>
 aF x1 (
 aJ vB (fun x2=>[.box [vS a0.S.Name,sl aH a0.S.M,vI a0.Op,vI a0.V]]) (pA a0.Op) fun x2=>
 aF x2 (
 aJ vB (fun x3=>[.box [vS a0.S.Name,sl aH a0.S.M,vI a0.Op,vI a0.V]]) (pG a0.V) fun x3=>
 aG x3) (
 aG false)) (
 aG false)
def tU (a0:(List aY)):Option (Bool) :=
 aA vI ((a0.length:Int)) fun x1=>
 aA vB (decide ((16:Int) < x1)) fun x2=>
 aF x2 (
 aG false) (
 aA vI ((a0.length:Int)) fun x3=>
 bQ (fun (x4:Int)=>[(0,sl aK a0),(8,sl aK a0),(9,vI x3),(10,vI x4)]) (fun (x4:Int)=>[]) (fun (x4:Int)=>
 aA vB (decide (x4 < x3)) fun x5=>
 aF x5 (
 bM a0 x4 fun x6=>
 aJ vB (fun x7=>[.box [vS x6.Name,vS x6.Value]]) (fR x6.Name) fun x7=>
 aA vB (!x7) fun x8=>
 aF x8 (
 aQ<|
 aG false) (
 aA vI ((x6.Value.length:Int)) fun x9=>
 aA vB (decide ((64:Int) < x9)) fun x10=>
 aF x10 (
 aQ<|
 aG false) (
 aA vB (decide ((0:Int) < x4)) fun x11=>
 aA vI (wI (x4 - (1:Int))) fun x12=>
 aF x11 (
 bM a0 x12 fun x13=>
 aA vB (!ltS x13.Name x6.Name) fun x14=>
 aF x14 (
 aQ<|
 aG false) (
 aA vI (wI (x4 + (1:Int))) fun x15=>
 aW x15)) (
 aA vI (wI (x4 + (1:Int))) fun x16=>
 aW x16)))) (
 aQ<|
 aG true)) (0:Int))
def sH (a0:a6):Option (Bool) :=
 aJ vB (fun x1=>[.box [vS a0.Name,vS a0.E.S.Name,sl aH a0.E.S.M,vI a0.E.Op,vI a0.E.V,vI a0.For,vI a0.Keep,sl aK a0.Labels]]) (fR a0.Name) fun x1=>
 aF x1 (
 aJ vB (fun x2=>[.box [vS a0.Name,vS a0.E.S.Name,sl aH a0.E.S.M,vI a0.E.Op,vI a0.E.V,vI a0.For,vI a0.Keep,sl aK a0.Labels]]) (sK a0.E) fun x2=>
 aF x2 (
 aJ vB (fun x3=>[.box [vS a0.Name,vS a0.E.S.Name,sl aH a0.E.S.M,vI a0.E.Op,vI a0.E.V,vI a0.For,vI a0.Keep,sl aK a0.Labels]]) (nM a0.For) fun x3=>
 aF x3 (
 aJ vB (fun x4=>[.box [vS a0.Name,vS a0.E.S.Name,sl aH a0.E.S.M,vI a0.E.Op,vI a0.E.V,vI a0.For,vI a0.Keep,sl aK a0.Labels]]) (nM a0.Keep) fun x4=>
 aF x4 (
 aJ vB (fun x5=>[.box [vS a0.Name,vS a0.E.S.Name,sl aH a0.E.S.M,vI a0.E.Op,vI a0.E.V,vI a0.For,vI a0.Keep,sl aK a0.Labels]]) (tU a0.Labels) fun x5=>
 aF x5 (
 aJ vB (fun x6=>[.box [vS a0.Name,vS a0.E.S.Name,sl aH a0.E.S.M,vI a0.E.Op,vI a0.E.V,vI a0.For,vI a0.Keep,sl aK a0.Labels]]) (lQ a0.Labels) fun x6=>
 aA vB (!x6) fun x7=>
 aG x7) (
 aG false)) (
 aG false)) (
 aG false)) (
 aG false)) (
 aG false)
def wH (a0:aI):Option (Bool) :=
 aJ vB (fun x1=>[.box [vS a0.Name,vI a0.Interval,vI a0.Offset,sl bL a0.Rules]]) (fR a0.Name) fun x1=>
 aA vB (!x1) fun x2=>
 aF x2 (
 aG false) (
 aJ vB (fun x3=>[.box [vS a0.Name,vI a0.Interval,vI a0.Offset,sl bL a0.Rules]]) (nM a0.Interval) fun x3=>
 aA vB (!x3) fun x4=>
 aF x4 (
 aG false) (
 aA vB (decide (a0.Interval=(0:Int))) fun x5=>
 aF x5 (
 aG false) (
 aA vB (decide (a0.Offset < (0:Int))) fun x6=>
 aF x6 (
 aG false) (
 aA vB (decide (a0.Interval≤a0.Offset)) fun x7=>
 aF x7 (
 aG false) (
 aA vI ((a0.Rules.length:Int)) fun x8=>
 aA vB (decide ((16:Int) < x8)) fun x9=>
 aF x9 (
 aG false) (
 aA vI ((a0.Rules.length:Int)) fun x10=>
 bQ (fun (x11:Int)=>[(1,.ptr 0 0),(37,sl bL a0.Rules),(38,vI x10),(39,vI x11)]) (fun (x11:Int)=>[.box [vS a0.Name,vI a0.Interval,vI a0.Offset,sl bL a0.Rules]]) (fun (x11:Int)=>
 aA vB (decide (x11 < x10)) fun x12=>
 aF x12 (
 bM a0.Rules x11 fun x13=>
 eN<|
 aJ vB (fun x14=>[.box [vS a0.Name,vI a0.Interval,vI a0.Offset,sl bL a0.Rules],.box [vS x13.Name,vS x13.E.S.Name,sl aH x13.E.S.M,vI x13.E.Op,vI x13.E.V,vI x13.For,vI x13.Keep,sl aK x13.Labels]]) (sH x13) fun x14=>
 aA vB (!x14) fun x15=>
 aF x15 (
 aQ<|
 aG false) (
 gdM (0≤(0:Int)∧(0:Int)≤x11∧x11≤(a0.Rules.length:Int))<|
 aA (sl bL) ((a0.Rules.take x11.toNat).drop (0:Int).toNat) fun x16=>
 aJ vB (fun x17=>[.box [vS a0.Name,vI a0.Interval,vI a0.Offset,sl bL a0.Rules],.box [vS x13.Name,vS x13.E.S.Name,sl aH x13.E.S.M,vI x13.E.Op,vI x13.E.V,vI x13.For,vI x13.Keep,sl aK x13.Labels]]) (jW x16 x13.Name) fun x17=>
 aF x17 (
 aQ<|
 aG false) (
 aA vI (wI (x11 + (1:Int))) fun x18=>
 aW x18))) (
 aQ<|
 aG true)) (0:Int)))))))
def nB (a0:(List aI)):Option (Bool) :=
 aA vI ((a0.length:Int)) fun x1=>
 aA vB (decide ((16:Int) < x1)) fun x2=>
 aF x2 (
 aG false) (
 aA vI ((a0.length:Int)) fun x3=>
 bQ (fun (x4:Int)=>[(0,sl aD a0),(8,sl aD a0),(9,vI x3),(10,vI x4)]) (fun (x4:Int)=>[]) (fun (x4:Int)=>
 aA vB (decide (x4 < x3)) fun x5=>
 aF x5 (
 bM a0 x4 fun x6=>
 eN<|
 aJ vB (fun x7=>[.box [vS x6.Name,vI x6.Interval,vI x6.Offset,sl bL x6.Rules]]) (wH x6) fun x7=>
 aA vB (!x7) fun x8=>
 aF x8 (
 aQ<|
 aG false) (
 gdM (0≤(0:Int)∧(0:Int)≤x4∧x4≤(a0.length:Int))<|
 aA (sl aD) ((a0.take x4.toNat).drop (0:Int).toNat) fun x9=>
 aJ vB (fun x10=>[.box [vS x6.Name,vI x6.Interval,vI x6.Offset,sl bL x6.Rules]]) (kF x9 x6.Name) fun x10=>
 aF x10 (
 aQ<|
 aG false) (
 aA vI (wI (x4 + (1:Int))) fun x11=>
 aW x11))) (
 aQ<|
 aG true)) (0:Int))
def oV (a0:Int):Option (Str) :=
 aJ vB (fun x1=>[]) (nM a0) fun x1=>
 aA vB (!x1) fun x2=>
 aF x2 (
 aG ([]:Str)) (
 aA vB (decide (a0=(0:Int))) fun x3=>
 aF x3 (
 aG ([48,115]:Str)) (
 bQ (fun (x4:Int × Int × Str)=>[(0,vI x4.1),(3,vS x4.2.2),(12,.agg ((gl0.map C3).flatten.map .ofD)),(13,vI x4.2.1)]) (fun (x4:Int × Int × Str)=>[]) (fun (x4:Int × Int × Str)=>
 aA vB (decide (x4.2.1 < (5:Int))) fun x5=>
 aF x5 (
 bM gl0 x4.2.1 fun x6=>
 gdM (x6.size ≠ 0)<|
 aA vI (wI (Int.tdiv x4.1 x6.size)) fun x7=>
 aA vB (decide ((0:Int) < x7)) fun x8=>
 aF x8 (
 eN<|
 aJ vS (fun x9=>[.box [vS x6.letters,vI x6.size]]) (strconv_Itoa x7) fun x9=>
 gdM (x9.length + x6.letters.length≤9223372036854775807)<|
 aA vS (x9 ++ x6.letters) fun x10=>
 gdM (x4.2.2.length + x10.length≤9223372036854775807)<|
 aA vS (x4.2.2 ++ x10) fun x11=>
 gdM (x6.size ≠ 0)<|
 aA vI (Int.tmod x4.1 x6.size) fun x12=>
 aA vI (wI (x4.2.1 + (1:Int))) fun x13=>
 aW (x12,x13,x11)) (
 gdM (x6.size ≠ 0)<|
 aA vI (Int.tmod x4.1 x6.size) fun x14=>
 aA vI (wI (x4.2.1 + (1:Int))) fun x15=>
 aW (x14,x15,x4.2.2))) (
 aQ<|
 aG x4.2.2)) (a0,(0:Int),([]:Str))))
def kV (a0:Str):Option (Str) :=
 d7 (so 0 (cK .u8)) (fun x1=>[tk x1.length 1 5]) ([(34:Int)]:(List Int)) fun x1=>
 bQ (fun (x2:(List Int) × Int)=>[(0,vS a0),(3,so 0 (cK .u8) x2.1),(4,vI x2.2)]) (fun (x2:(List Int) × Int)=>[tk x2.1.length 1 5]) (fun (x2:(List Int) × Int)=>
 aA vI ((a0.length:Int)) fun x3=>
 aA vB (decide (x2.2 < x3)) fun x4=>
 aF x4 (
 bM a0 x2.2 fun x5=>
 aA vB (decide ((x5.toNat:Int)=(92:Int))) fun x6=>
 aF x6 (
 aA (sx (cK .u8)) ([(92:Int),(x5.toNat:Int)]:(List Int)) fun x7=>
 gdM ((x2.1.length + x7.length) * 1≤140737488355328)<|
 d7 (so 0 (cK .u8)) (fun x8=>[tk x8.length 1 5]) (x2.1 ++ x7) fun x8=>
 aA vI (wI (x2.2 + (1:Int))) fun x9=>
 aW (x8,x9)) (
 aA vB (decide ((x5.toNat:Int)=(34:Int))) fun x10=>
 aF x10 (
 aA (sx (cK .u8)) ([(92:Int),(x5.toNat:Int)]:(List Int)) fun x11=>
 gdM ((x2.1.length + x11.length) * 1≤140737488355328)<|
 d7 (so 0 (cK .u8)) (fun x12=>[tk x12.length 1 5]) (x2.1 ++ x11) fun x12=>
 aA vI (wI (x2.2 + (1:Int))) fun x13=>
 aW (x12,x13)) (
 aA vB (decide ((x5.toNat:Int)=(10:Int))) fun x14=>
 aF x14 (
 aA (sx (cK .u8)) ([(92:Int),(110:Int)]:(List Int)) fun x15=>
 gdM ((x2.1.length + x15.length) * 1≤140737488355328)<|
 d7 (so 0 (cK .u8)) (fun x16=>[tk x16.length 1 5]) (x2.1 ++ x15) fun x16=>
 aA vI (wI (x2.2 + (1:Int))) fun x17=>
 aW (x16,x17)) (
 aA (sx (cK .u8)) ([(x5.toNat:Int)]:(List Int)) fun x18=>
 gdM ((x2.1.length + x18.length) * 1≤140737488355328)<|
 d7 (so 0 (cK .u8)) (fun x19=>[tk x19.length 1 5]) (x2.1 ++ x18) fun x19=>
 aA vI (wI (x2.2 + (1:Int))) fun x20=>
 aW (x19,x20))))) (
 aQ<|
 aA (sx (cK .u8)) ([(34:Int)]:(List Int)) fun x21=>
 gdM ((x2.1.length + x21.length) * 1≤140737488355328)<|
 d7 (so 0 (cK .u8)) (fun x22=>[tk x22.length 1 5]) (x2.1 ++ x21) fun x22=>
 aA vS (eO x22) fun x23=>
 aG x23)) (x1,(0:Int))
def wB (a0:cT):Option (Str) :=
 aJ vB (fun x1=>[.box [vS a0.Name,sl aH a0.M]]) (uN a0) fun x1=>
 aA vB (!x1) fun x2=>
 aF x2 (
 aG ([]:Str)) (
 aA vI ((a0.M.length:Int)) fun x3=>
 aA vB (decide (x3=(0:Int))) fun x4=>
 aF x4 (
 aG a0.Name) (
 aA vI ((a0.M.length:Int)) fun x5=>
 bQ (fun (x6:Int × Str)=>[(3,vS x6.2),(20,sl aH a0.M),(21,vI x5),(22,vI x6.1)]) (fun (x6:Int × Str)=>[]) (fun (x6:Int × Str)=>
 aA vB (decide (x6.1 < x5)) fun x7=>
 aF x7 (
 bM a0.M x6.1 fun x8=>
 aA vB (decide (x6.1=(0:Int))) fun x9=>
 aF x9 (
 aF x8.Not (
 eN<|
 gdM (([123]:Str).length + x8.Name.length≤9223372036854775807)<|
 aA vS (([123]:Str) ++ x8.Name) fun x10=>
 gdM (x10.length + ([33,61]:Str).length≤9223372036854775807)<|
 aA vS (x10 ++ ([33,61]:Str)) fun x11=>
 aJ vS (fun x12=>[.box [vS x8.Name,vS x8.Value,vB true]]) (kV x8.Value) fun x12=>
 gdM (x11.length + x12.length≤9223372036854775807)<|
 aA vS (x11 ++ x12) fun x13=>
 gdM (x6.2.length + x13.length≤9223372036854775807)<|
 aA vS (x6.2 ++ x13) fun x14=>
 aA vI (wI (x6.1 + (1:Int))) fun x15=>
 aW (x15,x14)) (
 eN<|
 gdM (([123]:Str).length + x8.Name.length≤9223372036854775807)<|
 aA vS (([123]:Str) ++ x8.Name) fun x16=>
 gdM (x16.length + ([61]:Str).length≤9223372036854775807)<|
 aA vS (x16 ++ ([61]:Str)) fun x17=>
 aJ vS (fun x18=>[.box [vS x8.Name,vS x8.Value,vB false]]) (kV x8.Value) fun x18=>
 gdM (x17.length + x18.length≤9223372036854775807)<|
 aA vS (x17 ++ x18) fun x19=>
 gdM (x6.2.length + x19.length≤9223372036854775807)<|
 aA vS (x6.2 ++ x19) fun x20=>
 aA vI (wI (x6.1 + (1:Int))) fun x21=>
 aW (x21,x20))) (
 aF x8.Not (
 eN<|
 gdM (([44]:Str).length + x8.Name.length≤9223372036854775807)<|
 aA vS (([44]:Str) ++ x8.Name) fun x22=>
 gdM (x22.length + ([33,61]:Str).length≤9223372036854775807)<|
 aA vS (x22 ++ ([33,61]:Str)) fun x23=>
 aJ vS (fun x24=>[.box [vS x8.Name,vS x8.Value,vB true]]) (kV x8.Value) fun x24=>
 gdM (x23.length + x24.length≤9223372036854775807)<|
 aA vS (x23 ++ x24) fun x25=>
 gdM (x6.2.length + x25.length≤9223372036854775807)<|
 aA vS (x6.2 ++ x25) fun x26=>
 aA vI (wI (x6.1 + (1:Int))) fun x27=>
 aW (x27,x26)) (
 eN<|
 gdM (([44]:Str).length + x8.Name.length≤9223372036854775807)<|
 aA vS (([44]:Str) ++ x8.Name) fun x28=>
 gdM (x28.length + ([61]:Str).length≤9223372036854775807)<|
 aA vS (x28 ++ ([61]:Str)) fun x29=>
 aJ vS (fun x30=>[.box [vS x8.Name,vS x8.Value,vB false]]) (kV x8.Value) fun x30=>
 gdM (x29.length + x30.length≤9223372036854775807)<|
 aA vS (x29 ++ x30) fun x31=>
 gdM (x6.2.length + x31.length≤9223372036854775807)<|
 aA vS (x6.2 ++ x31) fun x32=>
 aA vI (wI (x6.1 + (1:Int))) fun x33=>
 aW (x33,x32)))) (
 aQ<|
 gdM (x6.2.length + ([125]:Str).length≤9223372036854775807)<|
 aA vS (x6.2 ++ ([125]:Str)) fun x34=>
 aG x34)) ((0:Int),a0.Name)))
def hY (a0:Str) (a1:Int):Option (Str) :=
 bQ (fun (x1:Str)=>[(0,vS x1),(1,vK .u8 a1)]) (fun (x1:Str)=>[]) (fun (x1:Str)=>
 aA vI ((x1.length:Int)) fun x2=>
 aA vB (decide ((0:Int) < x2)) fun x3=>
 aA vI ((x1.length:Int)) fun x4=>
 aA vI (wI (x4 - (1:Int))) fun x5=>
 aF x3 (
 bM x1 x5 fun x6=>
 aA vB (decide ((x6.toNat:Int)=a1)) fun x7=>
 aF x7 (
 aA vI ((x1.length:Int)) fun x8=>
 aA vI (wI (x8 - (1:Int))) fun x9=>
 gdM (0≤(0:Int)∧(0:Int)≤x9∧x9≤(x1.length:Int))<|
 aA vS ((x1.take x9.toNat).drop (0:Int).toNat) fun x10=>
 aW x10) (
 aQ<|
 aG x1)) (
 aQ<|
 aG x1)) a0
def gG (a0:Str) (a1:Str):Option (Str) :=
 aA vB (decide (a0=([]:Str))) fun x1=>
 aA vB (decide (a1=([]:Str))) fun x2=>
 aA vB (bif x1 then true else x2) fun x3=>
 aF x3 (
 aG a0) (
 aA vI ((a1.length:Int)) fun x4=>
 aA vB (decide (x4=(1:Int))) fun x5=>
 aF x5 (
 bM a1 (0:Int) fun x6=>
 aA vB (decide ((x6.toNat:Int) < (128:Int))) fun x7=>
 aF x7 (
 aJ vS (fun x8=>[]) (hY a0 (x6.toNat:Int)) fun x8=>
 aG x8) (
 noM)) (
 noM))
def wW (a0:Int):Option (Str) :=
 aJ vB (fun x1=>[]) (pG a0) fun x1=>
 aA vB (!x1) fun x2=>
 aF x2 (
 aG ([]:Str)) (
 aA vB (decide (a0 < (0:Int))) fun x3=>
 aF x3 (
 aA vI (wI (0 - a0)) fun x4=>
 aA vI (wI (Int.tdiv x4 (1000:Int))) fun x5=>
 aJ vS (fun x6=>[]) (strconv_Itoa x5) fun x6=>
 gdM (([45]:Str).length + x6.length≤9223372036854775807)<|
 aA vS (([45]:Str) ++ x6) fun x7=>
 aA vI (Int.tmod x4 (1000:Int)) fun x8=>
 aA vB (decide (x8=(0:Int))) fun x9=>
 aF x9 (
 aG x7) (
 aA vI (Int.tmod x4 (1000:Int)) fun x10=>
 aA vI (wI ((1000:Int) + x10)) fun x11=>
 aJ vS (fun x12=>[]) (strconv_Itoa x11) fun x12=>
 gdM (0≤(1:Int)∧(1:Int)≤(x12.length:Int)∧(x12.length:Int)≤(x12.length:Int))<|
 aA vS ((x12.take (x12.length:Int).toNat).drop (1:Int).toNat) fun x13=>
 gdM (x7.length + ([46]:Str).length≤9223372036854775807)<|
 aA vS (x7 ++ ([46]:Str)) fun x14=>
 aJ vS (fun x15=>[]) (gG x13 ([48]:Str)) fun x15=>
 gdM (x14.length + x15.length≤9223372036854775807)<|
 aA vS (x14 ++ x15) fun x16=>
 aG x16)) (
 aA vI (wI (Int.tdiv a0 (1000:Int))) fun x17=>
 aJ vS (fun x18=>[]) (strconv_Itoa x17) fun x18=>
 gdM (([]:Str).length + x18.length≤9223372036854775807)<|
 aA vS (([]:Str) ++ x18) fun x19=>
 aA vI (Int.tmod a0 (1000:Int)) fun x20=>
 aA vB (decide (x20=(0:Int))) fun x21=>
 aF x21 (
 aG x19) (
 aA vI (Int.tmod a0 (1000:Int)) fun x22=>
 aA vI (wI ((1000:Int) + x22)) fun x23=>
 aJ vS (fun x24=>[]) (strconv_Itoa x23) fun x24=>
 gdM (0≤(1:Int)∧(1:Int)≤(x24.length:Int)∧(x24.length:Int)≤(x24.length:Int))<|
 aA vS ((x24.take (x24.length:Int).toNat).drop (1:Int).toNat) fun x25=>
 gdM (x19.length + ([46]:Str).length≤9223372036854775807)<|
 aA vS (x19 ++ ([46]:Str)) fun x26=>
 aJ vS (fun x27=>[]) (gG x25 ([48]:Str)) fun x27=>
 gdM (x26.length + x27.length≤9223372036854775807)<|
 aA vS (x26 ++ x27) fun x28=>
 aG x28)))
def uA (a0:cG):Option (Str) :=
 aJ vB (fun x1=>[.box [vS a0.S.Name,sl aH a0.S.M,vI a0.Op,vI a0.V]]) (sK a0) fun x1=>
 aA vB (!x1) fun x2=>
 aF x2 (
 aG ([]:Str)) (
 eN<|
 aJ vS (fun x3=>[.box [vS a0.S.Name,sl aH a0.S.M,vI a0.Op,vI a0.V]]) (wB a0.S) fun x3=>
 gdM (x3.length + ([32]:Str).length≤9223372036854775807)<|
 aA vS (x3 ++ ([32]:Str)) fun x4=>
 bM gl1 a0.Op fun x5=>
 gdM (x4.length + x5.length≤9223372036854775807)<|
 aA vS (x4 ++ x5) fun x6=>
 gdM (x6.length + ([32]:Str).length≤9223372036854775807)<|
 aA vS (x6 ++ ([32]:Str)) fun x7=>
 aJ vS (fun x8=>[.box [vS a0.S.Name,sl aH a0.S.M,vI a0.Op,vI a0.V]]) (wW a0.V) fun x8=>
 gdM (x7.length + x8.length≤9223372036854775807)<|
 aA vS (x7 ++ x8) fun x9=>
 aG x9)
def t8 (a0:a6):Option (Str) :=
 aJ vB (fun x1=>[.box [vS a0.Name,vS a0.E.S.Name,sl aH a0.E.S.M,vI a0.E.Op,vI a0.E.V,vI a0.For,vI a0.Keep,sl aK a0.Labels]]) (sH a0) fun x1=>
 aA vB (!x1) fun x2=>
 aF x2 (
 aG ([]:Str)) (
 eN<|
 gdM (([114,117,108,101,32]:Str).length + a0.Name.length≤9223372036854775807)<|
 aA vS (([114,117,108,101,32]:Str) ++ a0.Name) fun x3=>
 gdM (x3.length + ([58,32]:Str).length≤9223372036854775807)<|
 aA vS (x3 ++ ([58,32]:Str)) fun x4=>
 aJ vS (fun x5=>[.box [vS a0.Name,vS a0.E.S.Name,sl aH a0.E.S.M,vI a0.E.Op,vI a0.E.V,vI a0.For,vI a0.Keep,sl aK a0.Labels]]) (uA a0.E) fun x5=>
 gdM (x4.length + x5.length≤9223372036854775807)<|
 aA vS (x4 ++ x5) fun x6=>
 vG (fun (x7:Str)=>[(1,.ptr 0 0),(3,vS x7)]) (fun (x7:Str)=>[.box [vS a0.Name,vS a0.E.S.Name,sl aH a0.E.S.M,vI a0.E.Op,vI a0.E.V,vI a0.For,vI a0.Keep,sl aK a0.Labels]]) (fun (x7:Str)=>
 vG (fun (x12:Str)=>[(1,.ptr 0 0),(3,vS x12)]) (fun (x12:Str)=>[.box [vS a0.Name,vS a0.E.S.Name,sl aH a0.E.S.M,vI a0.E.Op,vI a0.E.V,vI a0.For,vI a0.Keep,sl aK a0.Labels]]) (fun (x12:Str)=>
 aA vI ((a0.Labels.length:Int)) fun x17=>
 aA vB (decide ((0:Int) < x17)) fun x18=>
 aF x18 (
 gdM (x12.length + ([32,108,97,98,101,108,115,32,123]:Str).length≤9223372036854775807)<|
 aA vS (x12 ++ ([32,108,97,98,101,108,115,32,123]:Str)) fun x19=>
 aA vI ((a0.Labels.length:Int)) fun x20=>
 bQ (fun (x21:Str × Int)=>[(3,vS x21.1),(42,sl aK a0.Labels),(43,vI x20),(44,vI x21.2)]) (fun (x21:Str × Int)=>[]) (fun (x21:Str × Int)=>
 aA vB (decide (x21.2 < x20)) fun x22=>
 aF x22 (
 bM a0.Labels x21.2 fun x23=>
 aA vB (decide ((0:Int) < x21.2)) fun x24=>
 aF x24 (
 gdM (x21.1.length + ([44]:Str).length≤9223372036854775807)<|
 aA vS (x21.1 ++ ([44]:Str)) fun x25=>
 eN<|
 gdM (x23.Name.length + ([61]:Str).length≤9223372036854775807)<|
 aA vS (x23.Name ++ ([61]:Str)) fun x26=>
 aJ vS (fun x27=>[.box [vS x23.Name,vS x23.Value]]) (kV x23.Value) fun x27=>
 gdM (x26.length + x27.length≤9223372036854775807)<|
 aA vS (x26 ++ x27) fun x28=>
 gdM (x25.length + x28.length≤9223372036854775807)<|
 aA vS (x25 ++ x28) fun x29=>
 aA vI (wI (x21.2 + (1:Int))) fun x30=>
 aW (x29,x30)) (
 eN<|
 gdM (x23.Name.length + ([61]:Str).length≤9223372036854775807)<|
 aA vS (x23.Name ++ ([61]:Str)) fun x31=>
 aJ vS (fun x32=>[.box [vS x23.Name,vS x23.Value]]) (kV x23.Value) fun x32=>
 gdM (x31.length + x32.length≤9223372036854775807)<|
 aA vS (x31 ++ x32) fun x33=>
 gdM (x21.1.length + x33.length≤9223372036854775807)<|
 aA vS (x21.1 ++ x33) fun x34=>
 aA vI (wI (x21.2 + (1:Int))) fun x35=>
 aW (x34,x35))) (
 aQ<|
 gdM (x21.1.length + ([125]:Str).length≤9223372036854775807)<|
 aA vS (x21.1 ++ ([125]:Str)) fun x36=>
 gdM (x36.length + ([59]:Str).length≤9223372036854775807)<|
 aA vS (x36 ++ ([59]:Str)) fun x37=>
 aG x37)) (x19,(0:Int))) (
 gdM (x12.length + ([59]:Str).length≤9223372036854775807)<|
 aA vS (x12 ++ ([59]:Str)) fun x38=>
 aG x38))<|
 aA vB (decide ((0:Int) < a0.Keep)) fun x13=>
 aF x13 (
 aJ vS (fun x14=>[.box [vS a0.Name,vS a0.E.S.Name,sl aH a0.E.S.M,vI a0.E.Op,vI a0.E.V,vI a0.For,vI a0.Keep,sl aK a0.Labels]]) (oV a0.Keep) fun x14=>
 gdM (([32,107,101,101,112,32]:Str).length + x14.length≤9223372036854775807)<|
 aA vS (([32,107,101,101,112,32]:Str) ++ x14) fun x15=>
 gdM (x7.length + x15.length≤9223372036854775807)<|
 aA vS (x7 ++ x15) fun x16=>
 aW x16) (
 aW x7))<|
 aA vB (decide ((0:Int) < a0.For)) fun x8=>
 aF x8 (
 aJ vS (fun x9=>[.box [vS a0.Name,vS a0.E.S.Name,sl aH a0.E.S.M,vI a0.E.Op,vI a0.E.V,vI a0.For,vI a0.Keep,sl aK a0.Labels]]) (oV a0.For) fun x9=>
 gdM (([32,102,111,114,32]:Str).length + x9.length≤9223372036854775807)<|
 aA vS (([32,102,111,114,32]:Str) ++ x9) fun x10=>
 gdM (x6.length + x10.length≤9223372036854775807)<|
 aA vS (x6 ++ x10) fun x11=>
 aW x11) (
 aW x6))
def wU (a0:cT):Option (Bool) :=
 aA vI ((a0.Name.length:Int)) fun x1=>
 bQ (fun (x2:Int × Int)=>[(1,.ptr 0 0),(3,vI x2.1),(4,vI x2.2)]) (fun (x2:Int × Int)=>[.box [vS a0.Name,sl aH a0.M]]) (fun (x2:Int × Int)=>
 aA vI ((a0.M.length:Int)) fun x3=>
 aA vB (decide (x2.2 < x3)) fun x4=>
 aF x4 (
 bM a0.M x2.2 fun x5=>
 aA vI ((x5.Name.length:Int)) fun x6=>
 aA vI (wI (x2.1 + x6)) fun x7=>
 aA vI ((x5.Value.length:Int)) fun x8=>
 aA vI (wI (x7 + x8)) fun x9=>
 aA vI (wI (x2.2 + (1:Int))) fun x10=>
 aW (x9,x10)) (
 aQ<|
 aA vI ((a0.M.length:Int)) fun x11=>
 aA vB (decide (x11≤(40:Int))) fun x12=>
 aA vB (decide (x2.1≤(3000:Int))) fun x13=>
 aA vB (bif x12 then x13 else false) fun x14=>
 aG x14)) (x1,(0:Int))
def vZ (a0:(List aY)):Option (Bool) :=
 bQ (fun (x1:Int × Int)=>[(0,sl aK a0),(3,vI x1.1),(4,vI x1.2)]) (fun (x1:Int × Int)=>[]) (fun (x1:Int × Int)=>
 aA vI ((a0.length:Int)) fun x2=>
 aA vB (decide (x1.2 < x2)) fun x3=>
 aF x3 (
 bM a0 x1.2 fun x4=>
 aA vI ((x4.Name.length:Int)) fun x5=>
 aA vI (wI (x1.1 + x5)) fun x6=>
 aA vI ((x4.Value.length:Int)) fun x7=>
 aA vI (wI (x6 + x7)) fun x8=>
 aA vI (wI (x1.2 + (1:Int))) fun x9=>
 aW (x8,x9)) (
 aQ<|
 aA vI ((a0.length:Int)) fun x10=>
 aA vB (decide (x10≤(40:Int))) fun x11=>
 aA vB (decide (x1.1≤(3000:Int))) fun x12=>
 aA vB (bif x11 then x12 else false) fun x13=>
 aG x13)) ((0:Int),(0:Int))
def sL (a0:a6):Option (Bool) :=
 aA vI ((a0.Name.length:Int)) fun x1=>
 aA vB (decide (x1≤(200:Int))) fun x2=>
 aF x2 (
 aJ vB (fun x3=>[.box [vS a0.Name,vS a0.E.S.Name,sl aH a0.E.S.M,vI a0.E.Op,vI a0.E.V,vI a0.For,vI a0.Keep,sl aK a0.Labels]]) (wU a0.E.S) fun x3=>
 aF x3 (
 aJ vB (fun x4=>[.box [vS a0.Name,vS a0.E.S.Name,sl aH a0.E.S.M,vI a0.E.Op,vI a0.E.V,vI a0.For,vI a0.Keep,sl aK a0.Labels]]) (vZ a0.Labels) fun x4=>
 aG x4) (
 aG false)) (
 aG false)
def fW (a0:(List aI)):Option (Bool) :=
 bQ (fun (x1:Int)=>[(0,sl aD a0),(3,vI x1)]) (fun (x1:Int)=>[]) (fun (x1:Int)=>
 aA vI ((a0.length:Int)) fun x2=>
 aA vB (decide (x1 < x2)) fun x3=>
 aF x3 (
 bQ (fun (x4:Int)=>[(0,sl aD a0),(3,vI x1),(4,vI x4)]) (fun (x4:Int)=>[]) (fun (x4:Int)=>
 bM a0 x1 fun x5=>
 aA vI ((x5.Rules.length:Int)) fun x6=>
 aA vB (decide (x4 < x6)) fun x7=>
 aF x7 (
 bM x5.Rules x4 fun x8=>
 aJ vB (fun x9=>[]) (sL x8) fun x9=>
 aA vB (!x9) fun x10=>
 aF x10 (
 aQ<|
 aQ<|
 aG false) (
 aA vI (wI (x4 + (1:Int))) fun x11=>
 aW x11)) (
 aQ<|
 aA vI ((x5.Rules.length:Int)) fun x12=>
 aA vB (decide ((20:Int) < x12)) fun x13=>
 aF x13 (
 aQ<|
 aG false) (
 aA vI ((x5.Name.length:Int)) fun x14=>
 aA vB (decide ((200:Int) < x14)) fun x15=>
 aF x15 (
 aQ<|
 aG false) (
 aA vI (wI (x1 + (1:Int))) fun x16=>
 aW x16)))) (0:Int)) (
 aQ<|
 aA vI ((a0.length:Int)) fun x17=>
 aA vB (decide (x17≤(20:Int))) fun x18=>
 aG x18)) (0:Int)
def lH (a0:(List aI)):Option ((List aI)) :=
 aJ vB (fun x1=>[]) (nB a0) fun x1=>
 aF x1 (
 aG a0) (
 aG ([]:(List aI)))
def iE (a0:(List aI)):Option ((List (bE × bK))) :=
 d7 (fun _=>.map 0) (fun x1=>[.map (mp (kC a7) (ag bB) x1)]) ([]:(List (bE × bK))) fun x1=>
 aJ (sl aD) (fun x2=>[.map (mp (kC a7) (ag bB) x1)]) (lH a0) fun x2=>
 aA vI ((x2.length:Int)) fun x3=>
 bQ (fun (x4:(List (bE × bK)) × Int)=>[(3,.map 0),(10,sl aD x2),(11,vI x3),(12,vI x4.2)]) (fun (x4:(List (bE × bK)) × Int)=>[.map (mp (kC a7) (ag bB) x4.1)]) (fun (x4:(List (bE × bK)) × Int)=>
 aA vB (decide (x4.2 < x3)) fun x5=>
 aF x5 (
 bM x2 x4.2 fun x6=>
 aA vI ((x6.Rules.length:Int)) fun x7=>
 bQ (fun (x8:(List (bE × bK)) × Int)=>[(3,.map 0),(5,.ptr 1 0),(10,sl aD x2),(11,vI x3),(12,vI x4.2),(17,sl bL x6.Rules),(18,vI x7),(19,vI x8.2)]) (fun (x8:(List (bE × bK)) × Int)=>[.map (mp (kC a7) (ag bB) x8.1),.box [vS x6.Name,vI x6.Interval,vI x6.Offset,sl bL x6.Rules]]) (fun (x8:(List (bE × bK)) × Int)=>
 aA vB (decide (x8.2 < x7)) fun x9=>
 aF x9 (
 bM x6.Rules x8.2 fun x10=>
 H8 13<|
 aJ vS (fun x11=>[.map (mp (kC a7) (ag bB) x8.1),.box [vS x6.Name,vI x6.Interval,vI x6.Offset,sl bL x6.Rules],.box [vS x10.Name,vS x10.E.S.Name,sl aH x10.E.S.M,vI x10.E.Op,vI x10.E.V,vI x10.For,vI x10.Keep,sl aK x10.Labels]]) (t8 x10) fun x11=>
 d7 (fun _=>.any) (fun x12=>[.map (mp (kC a7) (ag bB) x12),.box [vS x6.Name,vI x6.Interval,vI x6.Offset,sl bL x6.Rules],.box [vS x10.Name,vS x10.E.S.Name,sl aH x10.E.S.M,vI x10.E.Op,vI x10.E.V,vI x10.For,vI x10.Keep,sl aK x10.Labels]]) (mst x8.1 (⟨x6.Name,x10.Name⟩:bE) (⟨x11,x6.Interval,x6.Offset⟩:bK)) fun x12=>
 aA vI (wI (x8.2 + (1:Int))) fun x13=>
 aW (x12,x13)) (
 aQ<|
 aA vI (wI (x4.2 + (1:Int))) fun x14=>
 aW (x8.1,x14))) (x4.1,(0:Int))) (
 aQ<|
 aG x4.1)) (x1,(0:Int))
def g5 (a0:(List aI)):Option ((List bE)) :=
 aJ (sl aD) (fun x1=>[]) (lH a0) fun x1=>
 aA vI ((x1.length:Int)) fun x2=>
 uX 3 2 47<|
 bQ (fun (x3:Int × (List bE))=>[(3,so 0 a7 x3.2),(9,sl aD x1),(10,vI x2),(11,vI x3.1)]) (fun (x3:Int × (List bE))=>[tk x3.2.length 2 47]) (fun (x3:Int × (List bE))=>
 aA vB (decide (x3.1 < x2)) fun x4=>
 aF x4 (
 bM x1 x3.1 fun x5=>
 aA vI ((x5.Rules.length:Int)) fun x6=>
 bQ (fun (x7:Int × (List bE))=>[(3,so 0 a7 x7.2),(5,.ptr 1 0),(9,sl aD x1),(10,vI x2),(11,vI x3.1),(16,sl bL x5.Rules),(17,vI x6),(18,vI x7.1)]) (fun (x7:Int × (List bE))=>[tk x7.2.length 2 47,.box [vS x5.Name,vI x5.Interval,vI x5.Offset,sl bL x5.Rules]]) (fun (x7:Int × (List bE))=>
 aA vB (decide (x7.1 < x6)) fun x8=>
 aF x8 (
 bM x5.Rules x7.1 fun x9=>
 aA (sx a7) ([(⟨x5.Name,x9.Name⟩:bE)]:(List bE)) fun x10=>
 gdM ((x7.2.length + x10.length) * 32≤140737488355328)<|
 d7 (so 0 a7) (fun x11=>[tk x11.length 2 47,.box [vS x5.Name,vI x5.Interval,vI x5.Offset,sl bL x5.Rules],.box [vS x9.Name,vS x9.E.S.Name,sl aH x9.E.S.M,vI x9.E.Op,vI x9.E.V,vI x9.For,vI x9.Keep,sl aK x9.Labels]]) (x7.2 ++ x10) fun x11=>
 aA vI (wI (x7.1 + (1:Int))) fun x12=>
 aW (x12,x11)) (
 aQ<|
 aA vI (wI (x3.1 + (1:Int))) fun x13=>
 aW (x13,x7.2))) ((0:Int),x3.2)) (
 aQ<|
 aG x3.2)) ((0:Int),([]:List bE))
def kZ (a0:bE) (a1:(List (bE × bK))) (a2:(List (bE × bK))):Option (Bool) :=
 EJ a1 a0 (fun x1=>
 EJ a2 a0 (fun x2=>
 aA vB ((decide (x1.text=x2.text) && (decide (x1.interval=x2.interval) && (decide (x1.offset=x2.offset) && true)))) fun x3=>
 aG x3) (
 aG false)) (
 EJ a2 a0 (fun x4=>
 aG false) (
 aG false))
def eM (a0:(List aI)) (a1:(List aI)):Option ((List bE) × (List bE) × (List bE)) :=
 aJ (fun x1=>.map 0) (fun x1=>[.map (mp (kC a7) (ag bB) x1)]) (iE a0) fun x1=>
 aJ (fun x2=>.map 1) (fun x2=>[.map (mp (kC a7) (ag bB) x1),.map (mp (kC a7) (ag bB) x2)]) (iE a1) fun x2=>
 aJ (sl a7) (fun x3=>[.map (mp (kC a7) (ag bB) x1),.map (mp (kC a7) (ag bB) x2)]) (g5 a1) fun x3=>
 aA vI ((x3.length:Int)) fun x4=>
 uX 9 2 47<|
 uX 10 2 47<|
 bQ (fun (x5:(List bE) × Int × (List bE))=>[(0,sl aD a0),(7,.map 0),(8,.map 1),(9,so 2 a7 x5.2.2),(10,so 3 a7 x5.1),(11,.v (.slice none 0 0)),(21,sl a7 x3),(22,vI x4),(23,vI x5.2.1)]) (fun (x5:(List bE) × Int × (List bE))=>[.map (mp (kC a7) (ag bB) x1),.map (mp (kC a7) (ag bB) x2),tk x5.2.2.length 2 47,tk x5.1.length 2 47]) (fun (x5:(List bE) × Int × (List bE))=>
 aA vB (decide (x5.2.1 < x4)) fun x6=>
 aF x6 (
 bM x3 x5.2.1 fun x7=>
 bV [0,1] [.map (mp (kC a7) (ag bB) x1),.map (mp (kC a7) (ag bB) x2),tk x5.2.2.length 2 47,tk x5.1.length 2 47,.box [vS x7.Group,vS x7.Rule]] (fun x8=>vB x8) (fun x8=>[.map (mp (kC a7) (ag bB) x1),.map (mp (kC a7) (ag bB) x2),tk x5.2.2.length 2 47,tk x5.1.length 2 47,.box [vS x7.Group,vS x7.Rule]]) (kZ x7 x1 x2) fun x8=>
 aF x8 (
 aA (sx a7) ([x7]:(List bE)) fun x9=>
 gdM ((x5.2.2.length + x9.length) * 32≤140737488355328)<|
 d7 (so 2 a7) (fun x10=>[.map (mp (kC a7) (ag bB) x1),.map (mp (kC a7) (ag bB) x2),tk x10.length 2 47,tk x5.1.length 2 47,.box [vS x7.Group,vS x7.Rule]]) (x5.2.2 ++ x9) fun x10=>
 aA vI (wI (x5.2.1 + (1:Int))) fun x11=>
 aW (x5.1,x11,x10)) (
 aA (sx a7) ([x7]:(List bE)) fun x12=>
 gdM ((x5.1.length + x12.length) * 32≤140737488355328)<|
 d7 (so 3 a7) (fun x13=>[.map (mp (kC a7) (ag bB) x1),.map (mp (kC a7) (ag bB) x2),tk x5.2.2.length 2 47,tk x13.length 2 47,.box [vS x7.Group,vS x7.Rule]]) (x5.1 ++ x12) fun x13=>
 aA vI (wI (x5.2.1 + (1:Int))) fun x14=>
 aW (x13,x14,x5.2.2))) (
 aQ<|
 aJ (sl a7) (fun x15=>[.map (mp (kC a7) (ag bB) x1),.map (mp (kC a7) (ag bB) x2),tk x5.2.2.length 2 47,tk x5.1.length 2 47]) (g5 a0) fun x15=>
 aA vI ((x15.length:Int)) fun x16=>
 uX 11 2 47<|
 bQ (fun (x17:(List bE) × Int)=>[(7,.map 0),(8,.map 1),(9,so 2 a7 x5.2.2),(10,so 3 a7 x5.1),(11,so 4 a7 x17.1),(41,sl a7 x15),(42,vI x16),(43,vI x17.2)]) (fun (x17:(List bE) × Int)=>[.map (mp (kC a7) (ag bB) x1),.map (mp (kC a7) (ag bB) x2),tk x5.2.2.length 2 47,tk x5.1.length 2 47,tk x17.1.length 2 47]) (fun (x17:(List bE) × Int)=>
 aA vB (decide (x17.2 < x16)) fun x18=>
 aF x18 (
 bM x15 x17.2 fun x19=>
 bV [0,1] [.map (mp (kC a7) (ag bB) x1),.map (mp (kC a7) (ag bB) x2),tk x5.2.2.length 2 47,tk x5.1.length 2 47,tk x17.1.length 2 47,.box [vS x19.Group,vS x19.Rule]] (fun x20=>vB x20) (fun x20=>[.map (mp (kC a7) (ag bB) x1),.map (mp (kC a7) (ag bB) x2),tk x5.2.2.length 2 47,tk x5.1.length 2 47,tk x17.1.length 2 47,.box [vS x19.Group,vS x19.Rule]]) (kZ x19 x1 x2) fun x20=>
 aA vB (!x20) fun x21=>
 aF x21 (
 aA (sx a7) ([x19]:(List bE)) fun x22=>
 gdM ((x17.1.length + x22.length) * 32≤140737488355328)<|
 d7 (so 4 a7) (fun x23=>[.map (mp (kC a7) (ag bB) x1),.map (mp (kC a7) (ag bB) x2),tk x5.2.2.length 2 47,tk x5.1.length 2 47,tk x23.length 2 47,.box [vS x19.Group,vS x19.Rule]]) (x17.1 ++ x22) fun x23=>
 aA vI (wI (x17.2 + (1:Int))) fun x24=>
 aW (x23,x24)) (
 aA vI (wI (x17.2 + (1:Int))) fun x25=>
 aW (x17.1,x25))) (
 aQ<|
 aG (x5.2.2,x5.1,x17.1))) (([]:List bE),(0:Int)))) (([]:List bE),(0:Int),([]:List bE))
def jN (a0:(List aI)) (a1:bE):Option (Int × Int × Bool) :=
 aJ (sl aD) (fun x1=>[.box [vS a1.Group,vS a1.Rule]]) (lH a0) fun x1=>
 aA vI ((x1.length:Int)) fun x2=>
 bQ (fun (x3:Int)=>[(3,.ptr 0 0),(12,sl aD x1),(13,vI x2),(14,vI x3)]) (fun (x3:Int)=>[.box [vS a1.Group,vS a1.Rule]]) (fun (x3:Int)=>
 aA vB (decide (x3 < x2)) fun x4=>
 aF x4 (
 bM x1 x3 fun x5=>
 aA vI ((x5.Rules.length:Int)) fun x6=>
 bQ (fun (x7:Int)=>[(3,.ptr 0 0),(7,vI x3),(8,.ptr 1 0),(12,sl aD x1),(13,vI x2),(14,vI x3),(20,sl bL x5.Rules),(21,vI x6),(22,vI x7)]) (fun (x7:Int)=>[.box [vS a1.Group,vS a1.Rule],.box [vS x5.Name,vI x5.Interval,vI x5.Offset,sl bL x5.Rules]]) (fun (x7:Int)=>
 aA vB (decide (x7 < x6)) fun x8=>
 aF x8 (
 bM x5.Rules x7 fun x9=>
 aA vB ((decide (a1.Group=x5.Name) && (decide (a1.Rule=x9.Name) && true))) fun x10=>
 aF x10 (
 aQ<|
 aQ<|
 aG (x3,x7,true)) (
 aA vI (wI (x7 + (1:Int))) fun x11=>
 aW x11)) (
 aQ<|
 aA vI (wI (x3 + (1:Int))) fun x12=>
 aW x12)) (0:Int)) (
 aQ<|
 aG ((0:Int),(0:Int),false))) (0:Int)
def fS (a0:(List aI)) (a1:(List aI)) (a2:bE):Option (Bool) :=
 sN [] [] [(false,0),(false,2),(false,4),(true,1),(true,3),(true,5),(false,6)]<|
 aJ (fun x1=>.map 1) (fun x1=>[.box [vS a2.Group,vS a2.Rule],.map (mp (kC a7) (ag bB) x1)]) (iE a0) fun x1=>
 aJ (fun x2=>.map 2) (fun x2=>[.box [vS a2.Group,vS a2.Rule],.map (mp (kC a7) (ag bB) x1),.map (mp (kC a7) (ag bB) x2)]) (iE a1) fun x2=>
 bV [1,2] [.box [vS a2.Group,vS a2.Rule],.map (mp (kC a7) (ag bB) x1),.map (mp (kC a7) (ag bB) x2)] (fun x3=>vB x3) (fun x3=>[.box [vS a2.Group,vS a2.Rule],.map (mp (kC a7) (ag bB) x1),.map (mp (kC a7) (ag bB) x2)]) (kZ a2 x1 x2) fun x3=>
 aG x3
def law12_awake:Option (Bool) :=
 aJ (fun x1=>.tup [(sl aD) x1.1,vI x1.2.1,vI x1.2.2]) (fun x1=>[]) (kT ([103,114,111,117,112,32,103,32,101,118,101,114,121,32,49,109,32,123,32,114,117,108,101,32,65,58,32,117,112,32,62,32,49,59,32,114,117,108,101,32,66,58,32,117,112,32,62,32,50,59,32,125]:Str)) fun x1=>
 aJ (fun x2=>.tup [(sl aD) x2.1,vI x2.2.1,vI x2.2.2]) (fun x2=>[]) (kT ([103,114,111,117,112,32,103,32,101,118,101,114,121,32,49,109,32,123,32,114,117,108,101,32,66,58,32,117,112,32,62,32,50,59,32,114,117,108,101,32,65,58,32,117,112,32,62,32,51,59,32,125]:Str)) fun x2=>
 aJ (fun x3=>.tup [(sl a7) x3.1,(sl a7) x3.2.1,(sl a7) x3.2.2]) (fun x3=>[]) (eM ([]:(List aI)) x1.1) fun x3=>
 aJ (fun x4=>.tup [(sl a7) x4.1,(sl a7) x4.2.1,(sl a7) x4.2.2]) (fun x4=>[]) (eM x1.1 x2.1) fun x4=>
 aJ (fun x5=>.tup [vI x5.1,vI x5.2.1,vB x5.2.2]) (fun x5=>[]) (jN x1.1 (⟨([103]:Str),([66]:Str)⟩:bE)) fun x5=>
 aA vI ((x3.1.length:Int)) fun x6=>
 aA vB (decide (x6=(0:Int))) fun x7=>
 aA vI ((x3.2.1.length:Int)) fun x8=>
 aA vB (decide (x8=(2:Int))) fun x9=>
 aA vB (bif x7 then x9 else false) fun x10=>
 aA vI ((x3.2.2.length:Int)) fun x11=>
 aA vB (decide (x11=(0:Int))) fun x12=>
 aA vB (bif x10 then x12 else false) fun x13=>
 aA vI ((x4.1.length:Int)) fun x14=>
 aA vB (decide (x14=(1:Int))) fun x15=>
 aA vB (bif x13 then x15 else false) fun x16=>
 aF x16 (
 bM x4.1 (0:Int) fun x17=>
 aA vB (decide (x17.Rule=([66]:Str))) fun x18=>
 aA vI ((x4.2.1.length:Int)) fun x19=>
 aA vB (decide (x19=(1:Int))) fun x20=>
 aA vB (bif x18 then x20 else false) fun x21=>
 aA vI ((x4.2.2.length:Int)) fun x22=>
 aA vB (decide (x22=(1:Int))) fun x23=>
 aA vB (bif x21 then x23 else false) fun x24=>
 aA vB (decide (x5.1=(0:Int))) fun x25=>
 aA vB (bif x24 then x25 else false) fun x26=>
 aA vB (decide (x5.2.1=(1:Int))) fun x27=>
 aA vB (bif x26 then x27 else false) fun x28=>
 aA vB (bif x28 then x5.2.2 else false) fun x29=>
 aF x29 (
 aJ (sl a7) (fun x30=>[]) (g5 x1.1) fun x30=>
 aA vI ((x30.length:Int)) fun x31=>
 aA vB (decide (x31=(2:Int))) fun x32=>
 aF x32 (
 aJ vB (fun x33=>[]) (fS x1.1 x2.1 (⟨([103]:Str),([66]:Str)⟩:bE)) fun x33=>
 aG x33) (
 aG false)) (
 aG false)) (
 aA vI ((x4.2.1.length:Int)) fun x34=>
 aA vB (decide (x34=(1:Int))) fun x35=>
 aA vI ((x4.2.2.length:Int)) fun x36=>
 aA vB (decide (x36=(1:Int))) fun x37=>
 aA vB (decide (x5.1=(0:Int))) fun x38=>
 aA vB (decide (x5.2.1=(1:Int))) fun x39=>
 aG false)
def oY (a0:Int):Option (Bool) :=
 aA vB (decide ((97:Int)≤a0)) fun x1=>
 aA vB (decide (a0≤(122:Int))) fun x2=>
 aA vB (bif x1 then x2 else false) fun x3=>
 aA vB (decide ((65:Int)≤a0)) fun x4=>
 aA vB (decide (a0≤(90:Int))) fun x5=>
 aA vB (bif x4 then x5 else false) fun x6=>
 aA vB (bif x3 then true else x6) fun x7=>
 aA vB (decide (a0=(95:Int))) fun x8=>
 aA vB (bif x7 then true else x8) fun x9=>
 aG x9
def jO (a0:Str):Option (Bool) :=
 bQ (fun (x1:Int)=>[(0,vS a0),(3,vI x1)]) (fun (x1:Int)=>[]) (fun (x1:Int)=>
 aA vI ((a0.length:Int)) fun x2=>
 aA vB (decide (x1 < x2)) fun x3=>
 aF x3 (
 bM a0 x1 fun x4=>
 aJ vB (fun x5=>[]) (oY (x4.toNat:Int)) fun x5=>
 aA vB (!x5) fun x6=>
 aA vB (decide (x1=(0:Int))) fun x7=>
 aF x6 (
 aF x7 (
 aA vB (bif true then true else false) fun x8=>
 aF x8 (
 aA vB (bif true then true else false) fun x9=>
 aF x9 (
 aQ<|
 aG false) (
 aA vI (wI (x1 + (1:Int))) fun x10=>
 aW x10)) (
 aA vB (decide ((57:Int) < (x4.toNat:Int))) fun x11=>
 aA vB (bif false then true else x11) fun x12=>
 aF x12 (
 aQ<|
 aG false) (
 aA vI (wI (x1 + (1:Int))) fun x13=>
 aW x13))) (
 aA vB (decide ((x4.toNat:Int) < (48:Int))) fun x14=>
 aA vB (bif false then true else x14) fun x15=>
 aF x15 (
 aA vB (bif true then true else false) fun x16=>
 aF x16 (
 aQ<|
 aG false) (
 aA vI (wI (x1 + (1:Int))) fun x17=>
 aW x17)) (
 aA vB (decide ((57:Int) < (x4.toNat:Int))) fun x18=>
 aA vB (bif false then true else x18) fun x19=>
 aF x19 (
 aQ<|
 aG false) (
 aA vI (wI (x1 + (1:Int))) fun x20=>
 aW x20)))) (
 aA vB (bif x7 then true else false) fun x21=>
 aA vB (bif x21 then true else false) fun x22=>
 aA vI (wI (x1 + (1:Int))) fun x23=>
 aW x23)) (
 aQ<|
 aA vI ((a0.length:Int)) fun x24=>
 aA vB (decide ((1:Int)≤x24)) fun x25=>
 aA vI ((a0.length:Int)) fun x26=>
 aA vB (decide (x26≤(64:Int))) fun x27=>
 aA vB (bif x25 then x27 else false) fun x28=>
 aG x28)) (0:Int)
def qB (a0:cT):Option (Bool) :=
 bQ (fun (x1:Int)=>[(1,.ptr 0 0),(3,vI x1)]) (fun (x1:Int)=>[.box [vS a0.Name,sl aH a0.M]]) (fun (x1:Int)=>
 aA vI ((a0.M.length:Int)) fun x2=>
 aA vB (decide (x1 < x2)) fun x3=>
 aF x3 (
 bM a0.M x1 fun x4=>
 aJ vB (fun x5=>[.box [vS a0.Name,sl aH a0.M]]) (jO x4.Name) fun x5=>
 aA vB (!x5) fun x6=>
 aF x6 (
 aQ<|
 aG false) (
 aA vI ((x4.Value.length:Int)) fun x7=>
 aA vB (decide ((64:Int) < x7)) fun x8=>
 aF x8 (
 aQ<|
 aG false) (
 aA vI (wI (x1 + (1:Int))) fun x9=>
 aW x9))) (
 aQ<|
 aJ vB (fun x10=>[.box [vS a0.Name,sl aH a0.M]]) (jO a0.Name) fun x10=>
 aF x10 (
 aA vI ((a0.M.length:Int)) fun x11=>
 aA vB (decide (x11≤(8:Int))) fun x12=>
 aG x12) (
 aG false))) (0:Int)
def p6 (a0:Int):Option (Bool) :=
 aA vB (decide ((-9007199254740992:Int)≤a0)) fun x1=>
 aA vB (decide (a0≤(9007199254740992:Int))) fun x2=>
 aA vB (bif x1 then x2 else false) fun x3=>
 aG x3
def pP (a0:cG):Option (Bool) :=
 aJ vB (fun x1=>[.box [vS a0.S.Name,sl aH a0.S.M,vI a0.Op,vI a0.V]]) (qB a0.S) fun x1=>
 aF x1 (
 aA vB (decide ((1:Int)≤a0.Op)) fun x2=>
 aF x2 (
 aA vB (decide (a0.Op≤(6:Int))) fun x3=>
 aF x3 (
 aJ vB (fun x4=>[.box [vS a0.S.Name,sl aH a0.S.M,vI a0.Op,vI a0.V]]) (p6 a0.V) fun x4=>
 aG x4) (
 aG false)) (
 aG false)) (
 aG false)
def l9 (a0:Int):Option (Bool) :=
 aA vB (decide ((0:Int)≤a0)) fun x1=>
 aA vB (decide (a0≤(9007199254740992:Int))) fun x2=>
 aA vB (bif x1 then x2 else false) fun x3=>
 aG x3
def tP (a0:(List aY)):Option (Bool) :=
 bQ (fun (x1:Int)=>[(0,sl aK a0),(3,vI x1)]) (fun (x1:Int)=>[]) (fun (x1:Int)=>
 aA vI ((a0.length:Int)) fun x2=>
 aA vB (decide (x1 < x2)) fun x3=>
 aF x3 (
 eN<|
 bM a0 x1 fun x4=>
 aJ vB (fun x5=>[]) (jO x4.Name) fun x5=>
 aA vB (!x5) fun x6=>
 aF x6 (
 aA vB (decide ((0:Int) < x1)) fun x7=>
 aA vI (wI (x1 - (1:Int))) fun x8=>
 aA vB (bif x7 then false else false) fun x9=>
 aQ<|
 aG false) (
 aA vI ((x4.Value.length:Int)) fun x10=>
 aA vB (decide ((64:Int) < x10)) fun x11=>
 aA vB (decide ((0:Int) < x1)) fun x12=>
 aA vI (wI (x1 - (1:Int))) fun x13=>
 aF x11 (
 aA vB (bif x12 then false else false) fun x14=>
 aQ<|
 aG false) (
 aF x12 (
 bM a0 x13 fun x15=>
 aA vB (!ltS x15.Name x4.Name) fun x16=>
 aA vB (bif true then x16 else false) fun x17=>
 aF x17 (
 aQ<|
 aG false) (
 aA vI (wI (x1 + (1:Int))) fun x18=>
 aW x18)) (
 aA vB (bif false then false else false) fun x19=>
 aF x19 (
 aQ<|
 aG false) (
 aA vI (wI (x1 + (1:Int))) fun x20=>
 aW x20))))) (
 aQ<|
 aA vI ((a0.length:Int)) fun x21=>
 aA vB (decide (x21≤(16:Int))) fun x22=>
 aG x22)) (0:Int)
def mS (a0:Str):Option (Bool) :=
 aA vB (decide (a0=([95,95,110,97,109,101,95,95]:Str))) fun x1=>
 aA vB (decide (a0=([97,108,101,114,116,110,97,109,101]:Str))) fun x2=>
 aA vB (bif x1 then true else x2) fun x3=>
 aA vB (decide (a0=([97,108,101,114,116,115,116,97,116,101]:Str))) fun x4=>
 aA vB (bif x3 then true else x4) fun x5=>
 aG x5
def tT (a0:(List aY)):Option (Bool) :=
 bQ (fun (x1:Int)=>[(0,sl aK a0),(3,vI x1)]) (fun (x1:Int)=>[]) (fun (x1:Int)=>
 aA vI ((a0.length:Int)) fun x2=>
 aA vB (decide (x1 < x2)) fun x3=>
 aF x3 (
 bM a0 x1 fun x4=>
 aJ vB (fun x5=>[]) (mS x4.Name) fun x5=>
 aF x5 (
 aQ<|
 aG false) (
 aA vI (wI (x1 + (1:Int))) fun x6=>
 aW x6)) (
 aQ<|
 aG true)) (0:Int)
def pT (a0:a6):Option (Bool) :=
 aJ vB (fun x1=>[.box [vS a0.Name,vS a0.E.S.Name,sl aH a0.E.S.M,vI a0.E.Op,vI a0.E.V,vI a0.For,vI a0.Keep,sl aK a0.Labels]]) (jO a0.Name) fun x1=>
 aF x1 (
 aJ vB (fun x2=>[.box [vS a0.Name,vS a0.E.S.Name,sl aH a0.E.S.M,vI a0.E.Op,vI a0.E.V,vI a0.For,vI a0.Keep,sl aK a0.Labels]]) (pP a0.E) fun x2=>
 aF x2 (
 aJ vB (fun x3=>[.box [vS a0.Name,vS a0.E.S.Name,sl aH a0.E.S.M,vI a0.E.Op,vI a0.E.V,vI a0.For,vI a0.Keep,sl aK a0.Labels]]) (l9 a0.For) fun x3=>
 aF x3 (
 aJ vB (fun x4=>[.box [vS a0.Name,vS a0.E.S.Name,sl aH a0.E.S.M,vI a0.E.Op,vI a0.E.V,vI a0.For,vI a0.Keep,sl aK a0.Labels]]) (l9 a0.Keep) fun x4=>
 aF x4 (
 aJ vB (fun x5=>[.box [vS a0.Name,vS a0.E.S.Name,sl aH a0.E.S.M,vI a0.E.Op,vI a0.E.V,vI a0.For,vI a0.Keep,sl aK a0.Labels]]) (tP a0.Labels) fun x5=>
 aF x5 (
 aJ vB (fun x6=>[.box [vS a0.Name,vS a0.E.S.Name,sl aH a0.E.S.M,vI a0.E.Op,vI a0.E.V,vI a0.For,vI a0.Keep,sl aK a0.Labels]]) (tT a0.Labels) fun x6=>
 aG x6) (
 aG false)) (
 aG false)) (
 aG false)) (
 aG false)) (
 aG false)
def rA (a0:(List a6)) (a1:Str):Option (Bool) :=
 bQ (fun (x1:Int)=>[(0,sl bL a0),(1,vS a1),(5,vI x1)]) (fun (x1:Int)=>[]) (fun (x1:Int)=>
 aA vI ((a0.length:Int)) fun x2=>
 aA vB (decide (x1 < x2)) fun x3=>
 aF x3 (
 bM a0 x1 fun x4=>
 aA vB (decide (x4.Name=a1)) fun x5=>
 aF x5 (
 aQ<|
 aG true) (
 aA vI (wI (x1 + (1:Int))) fun x6=>
 aW x6)) (
 aQ<|
 aG false)) (0:Int)
def q9 (a0:aI):Option (Bool) :=
 bQ (fun (x1:Int)=>[(1,.ptr 0 0),(3,vI x1)]) (fun (x1:Int)=>[.box [vS a0.Name,vI a0.Interval,vI a0.Offset,sl bL a0.Rules]]) (fun (x1:Int)=>
 aA vI ((a0.Rules.length:Int)) fun x2=>
 aA vB (decide (x1 < x2)) fun x3=>
 aF x3 (
 eN<|
 bM a0.Rules x1 fun x4=>
 aJ vB (fun x5=>[.box [vS a0.Name,vI a0.Interval,vI a0.Offset,sl bL a0.Rules]]) (pT x4) fun x5=>
 aA vB (!x5) fun x6=>
 aF x6 (
 aQ<|
 aG false) (
 gdM (0≤(0:Int)∧(0:Int)≤x1∧x1≤(a0.Rules.length:Int))<|
 aA (sl bL) ((a0.Rules.take x1.toNat).drop (0:Int).toNat) fun x7=>
 aJ vB (fun x8=>[.box [vS a0.Name,vI a0.Interval,vI a0.Offset,sl bL a0.Rules]]) (rA x7 x4.Name) fun x8=>
 aF x8 (
 aQ<|
 aG false) (
 aA vI (wI (x1 + (1:Int))) fun x9=>
 aW x9))) (
 aQ<|
 aJ vB (fun x10=>[.box [vS a0.Name,vI a0.Interval,vI a0.Offset,sl bL a0.Rules]]) (jO a0.Name) fun x10=>
 aF x10 (
 aJ vB (fun x11=>[.box [vS a0.Name,vI a0.Interval,vI a0.Offset,sl bL a0.Rules]]) (l9 a0.Interval) fun x11=>
 aF x11 (
 aA vB (decide ((0:Int) < a0.Interval)) fun x12=>
 aF x12 (
 aA vB (decide ((0:Int)≤a0.Offset)) fun x13=>
 aF x13 (
 aA vB (decide (a0.Offset < a0.Interval)) fun x14=>
 aF x14 (
 aA vI ((a0.Rules.length:Int)) fun x15=>
 aA vB (decide (x15≤(16:Int))) fun x16=>
 aG x16) (
 aG false)) (
 aG false)) (
 aG false)) (
 aG false)) (
 aG false))) (0:Int)
def wJ (a0:(List aI)) (a1:Str):Option (Bool) :=
 bQ (fun (x1:Int)=>[(0,sl aD a0),(1,vS a1),(5,vI x1)]) (fun (x1:Int)=>[]) (fun (x1:Int)=>
 aA vI ((a0.length:Int)) fun x2=>
 aA vB (decide (x1 < x2)) fun x3=>
 aF x3 (
 bM a0 x1 fun x4=>
 aA vB (decide (x4.Name=a1)) fun x5=>
 aF x5 (
 aQ<|
 aG true) (
 aA vI (wI (x1 + (1:Int))) fun x6=>
 aW x6)) (
 aQ<|
 aG false)) (0:Int)
def s4 (a0:(List aI)):Option (Bool) :=
 bQ (fun (x1:Int)=>[(0,sl aD a0),(3,vI x1)]) (fun (x1:Int)=>[]) (fun (x1:Int)=>
 aA vI ((a0.length:Int)) fun x2=>
 aA vB (decide (x1 < x2)) fun x3=>
 aF x3 (
 eN<|
 bM a0 x1 fun x4=>
 aJ vB (fun x5=>[]) (q9 x4) fun x5=>
 aA vB (!x5) fun x6=>
 aF x6 (
 aQ<|
 aG false) (
 gdM (0≤(0:Int)∧(0:Int)≤x1∧x1≤(a0.length:Int))<|
 aA (sl aD) ((a0.take x1.toNat).drop (0:Int).toNat) fun x7=>
 aJ vB (fun x8=>[]) (wJ x7 x4.Name) fun x8=>
 aF x8 (
 aQ<|
 aG false) (
 aA vI (wI (x1 + (1:Int))) fun x9=>
 aW x9))) (
 aQ<|
 aA vI ((a0.length:Int)) fun x10=>
 aA vB (decide (x10≤(16:Int))) fun x11=>
 aG x11)) (0:Int)
def uS (a0:(List aI)):Option ((List aI)) :=
 aJ vB (fun x1=>[]) (s4 a0) fun x1=>
 aA vB (!x1) fun x2=>
 aF x2 (
 aG ([]:(List aI))) (
 aG a0)
def nI (a0:(List aI)) (a1:bE):Option (Int × Int × Bool) :=
 aJ (sl aD) (fun x1=>[.box [vS a1.Group,vS a1.Rule]]) (uS a0) fun x1=>
 bQ (fun (x2:Int)=>[(3,.ptr 0 0),(7,sl aD x1),(8,vI x2)]) (fun (x2:Int)=>[.box [vS a1.Group,vS a1.Rule]]) (fun (x2:Int)=>
 aA vI ((x1.length:Int)) fun x3=>
 aA vB (decide (x2 < x3)) fun x4=>
 aF x4 (
 bQ (fun (x5:Int)=>[(3,.ptr 0 0),(7,sl aD x1),(8,vI x2),(9,vI x5)]) (fun (x5:Int)=>[.box [vS a1.Group,vS a1.Rule]]) (fun (x5:Int)=>
 bM x1 x2 fun x6=>
 aA vI ((x6.Rules.length:Int)) fun x7=>
 aA vB (decide (x5 < x7)) fun x8=>
 aF x8 (
 aA vB (decide (x6.Name=a1.Group)) fun x9=>
 aF x9 (
 bM x6.Rules x5 fun x10=>
 aA vB (decide (x10.Name=a1.Rule)) fun x11=>
 aF x11 (
 aQ<|
 aQ<|
 aG (x2,x5,true)) (
 aA vI (wI (x5 + (1:Int))) fun x12=>
 aW x12)) (
 aA vI (wI (x5 + (1:Int))) fun x13=>
 aW x13)) (
 aQ<|
 aA vI (wI (x2 + (1:Int))) fun x14=>
 aW x14)) (0:Int)) (
 aQ<|
 aG ((0:Int),(0:Int),false))) (0:Int)
def nC (a0:(List aI)):Option ((List bE)) :=
 aJ (sl aD) (fun x1=>[]) (uS a0) fun x1=>
 uX 4 2 47<|
 bQ (fun (x2:(List bE) × Int)=>[(3,sl aD x1),(4,so 0 a7 x2.1),(5,vI x2.2)]) (fun (x2:(List bE) × Int)=>[tk x2.1.length 2 47]) (fun (x2:(List bE) × Int)=>
 aA vI ((x1.length:Int)) fun x3=>
 aA vB (decide (x2.2 < x3)) fun x4=>
 aF x4 (
 bQ (fun (x5:(List bE) × Int)=>[(3,sl aD x1),(4,so 0 a7 x5.1),(5,vI x2.2),(6,vI x5.2)]) (fun (x5:(List bE) × Int)=>[tk x5.1.length 2 47]) (fun (x5:(List bE) × Int)=>
 bM x1 x2.2 fun x6=>
 aA vI ((x6.Rules.length:Int)) fun x7=>
 aA vB (decide (x5.2 < x7)) fun x8=>
 aF x8 (
 H8 17<|
 bM x6.Rules x5.2 fun x9=>
 aA (sx a7) ([(⟨x6.Name,x9.Name⟩:bE)]:(List bE)) fun x10=>
 gdM ((x5.1.length + x10.length) * 32≤140737488355328)<|
 d7 (so 0 a7) (fun x11=>[tk x11.length 2 47]) (x5.1 ++ x10) fun x11=>
 aA vI (wI (x5.2 + (1:Int))) fun x12=>
 aW (x11,x12)) (
 aQ<|
 aA vI (wI (x2.2 + (1:Int))) fun x13=>
 aW (x5.1,x13))) (x2.1,(0:Int))) (
 aQ<|
 aG x2.1)) (([]:List bE),(0:Int))
def iL (a0:Str):Option (Str) :=
 d7 (so 0 (cK .u8)) (fun x1=>[tk x1.length 1 5]) ([(34:Int)]:(List Int)) fun x1=>
 bQ (fun (x2:(List Int) × Int)=>[(0,vS a0),(3,so 0 (cK .u8) x2.1),(4,vI x2.2)]) (fun (x2:(List Int) × Int)=>[tk x2.1.length 1 5]) (fun (x2:(List Int) × Int)=>
 aA vI ((a0.length:Int)) fun x3=>
 aA vB (decide (x2.2 < x3)) fun x4=>
 aF x4 (
 bM a0 x2.2 fun x5=>
 aA vB (decide ((x5.toNat:Int)=(92:Int))) fun x6=>
 aF x6 (
 aA (sx (cK .u8)) ([(92:Int),(x5.toNat:Int)]:(List Int)) fun x7=>
 gdM ((x2.1.length + x7.length) * 1≤140737488355328)<|
 d7 (so 0 (cK .u8)) (fun x8=>[tk x8.length 1 5]) (x2.1 ++ x7) fun x8=>
 aA vI (wI (x2.2 + (1:Int))) fun x9=>
 aW (x8,x9)) (
 aA vB (decide ((x5.toNat:Int)=(34:Int))) fun x10=>
 aF x10 (
 aA (sx (cK .u8)) ([(92:Int),(x5.toNat:Int)]:(List Int)) fun x11=>
 gdM ((x2.1.length + x11.length) * 1≤140737488355328)<|
 d7 (so 0 (cK .u8)) (fun x12=>[tk x12.length 1 5]) (x2.1 ++ x11) fun x12=>
 aA vI (wI (x2.2 + (1:Int))) fun x13=>
 aW (x12,x13)) (
 aA vB (decide ((x5.toNat:Int)=(10:Int))) fun x14=>
 aF x14 (
 aA (sx (cK .u8)) ([(92:Int),(110:Int)]:(List Int)) fun x15=>
 gdM ((x2.1.length + x15.length) * 1≤140737488355328)<|
 d7 (so 0 (cK .u8)) (fun x16=>[tk x16.length 1 5]) (x2.1 ++ x15) fun x16=>
 aA vI (wI (x2.2 + (1:Int))) fun x17=>
 aW (x16,x17)) (
 aA (sx (cK .u8)) ([(x5.toNat:Int)]:(List Int)) fun x18=>
 gdM ((x2.1.length + x18.length) * 1≤140737488355328)<|
 d7 (so 0 (cK .u8)) (fun x19=>[tk x19.length 1 5]) (x2.1 ++ x18) fun x19=>
 aA vI (wI (x2.2 + (1:Int))) fun x20=>
 aW (x19,x20))))) (
 aQ<|
 aA vS (eO x2.1) fun x21=>
 gdM (x21.length + ([34]:Str).length≤9223372036854775807)<|
 aA vS (x21 ++ ([34]:Str)) fun x22=>
 aG x22)) (x1,(0:Int))
def qR (a0:cT):Option (Str) :=
 aJ vB (fun x1=>[.box [vS a0.Name,sl aH a0.M]]) (qB a0) fun x1=>
 aA vB (!x1) fun x2=>
 aF x2 (
 aG ([]:Str)) (
 bQ (fun (x3:Str × Int)=>[(1,.ptr 0 0),(3,vS x3.1),(4,vI x3.2)]) (fun (x3:Str × Int)=>[.box [vS a0.Name,sl aH a0.M]]) (fun (x3:Str × Int)=>
 aA vI ((a0.M.length:Int)) fun x4=>
 aA vB (decide (x3.2 < x4)) fun x5=>
 aF x5 (
 aA vB (decide (x3.2=(0:Int))) fun x6=>
 aF x6 (
 gdM (x3.1.length + ([123]:Str).length≤9223372036854775807)<|
 aA vS (x3.1 ++ ([123]:Str)) fun x7=>
 bM a0.M x3.2 fun x8=>
 gdM (x7.length + x8.Name.length≤9223372036854775807)<|
 aA vS (x7 ++ x8.Name) fun x9=>
 aF x8.Not (
 gdM (x9.length + ([33]:Str).length≤9223372036854775807)<|
 aA vS (x9 ++ ([33]:Str)) fun x10=>
 gdM (x10.length + ([61]:Str).length≤9223372036854775807)<|
 aA vS (x10 ++ ([61]:Str)) fun x11=>
 aJ vS (fun x12=>[.box [vS a0.Name,sl aH a0.M]]) (iL x8.Value) fun x12=>
 gdM (x11.length + x12.length≤9223372036854775807)<|
 aA vS (x11 ++ x12) fun x13=>
 aA vI (wI (x3.2 + (1:Int))) fun x14=>
 aW (x13,x14)) (
 gdM (x9.length + ([61]:Str).length≤9223372036854775807)<|
 aA vS (x9 ++ ([61]:Str)) fun x15=>
 aJ vS (fun x16=>[.box [vS a0.Name,sl aH a0.M]]) (iL x8.Value) fun x16=>
 gdM (x15.length + x16.length≤9223372036854775807)<|
 aA vS (x15 ++ x16) fun x17=>
 aA vI (wI (x3.2 + (1:Int))) fun x18=>
 aW (x17,x18))) (
 gdM (x3.1.length + ([44]:Str).length≤9223372036854775807)<|
 aA vS (x3.1 ++ ([44]:Str)) fun x19=>
 bM a0.M x3.2 fun x20=>
 gdM (x19.length + x20.Name.length≤9223372036854775807)<|
 aA vS (x19 ++ x20.Name) fun x21=>
 aF x20.Not (
 gdM (x21.length + ([33]:Str).length≤9223372036854775807)<|
 aA vS (x21 ++ ([33]:Str)) fun x22=>
 gdM (x22.length + ([61]:Str).length≤9223372036854775807)<|
 aA vS (x22 ++ ([61]:Str)) fun x23=>
 aJ vS (fun x24=>[.box [vS a0.Name,sl aH a0.M]]) (iL x20.Value) fun x24=>
 gdM (x23.length + x24.length≤9223372036854775807)<|
 aA vS (x23 ++ x24) fun x25=>
 aA vI (wI (x3.2 + (1:Int))) fun x26=>
 aW (x25,x26)) (
 gdM (x21.length + ([61]:Str).length≤9223372036854775807)<|
 aA vS (x21 ++ ([61]:Str)) fun x27=>
 aJ vS (fun x28=>[.box [vS a0.Name,sl aH a0.M]]) (iL x20.Value) fun x28=>
 gdM (x27.length + x28.length≤9223372036854775807)<|
 aA vS (x27 ++ x28) fun x29=>
 aA vI (wI (x3.2 + (1:Int))) fun x30=>
 aW (x29,x30)))) (
 aQ<|
 aA vI ((a0.M.length:Int)) fun x31=>
 aA vB (decide ((0:Int) < x31)) fun x32=>
 aF x32 (
 gdM (x3.1.length + ([125]:Str).length≤9223372036854775807)<|
 aA vS (x3.1 ++ ([125]:Str)) fun x33=>
 aG x33) (
 aG x3.1))) (a0.Name,(0:Int)))
def vO:Option ((List Str)) :=
 aA (sx cS) ([([62]:Str),([62,61]:Str),([60]:Str),([60,61]:Str),([61,61]:Str),([33,61]:Str)]:(List Str)) fun x1=>
 aG x1
def jK:Nat→Int→Option (Str)
 | 0,_=>none
 | nrec + 1,a0=>
 aA vB (decide (a0 < (10:Int))) fun x1=>
 aF x1 (
 aA vI (wI ((48:Int) + a0)) fun x2=>
 aA (vK .u8) (IntKind.u8.wrap x2) fun x3=>
 aA (sx (cK .u8)) ([x3]:(List Int)) fun x4=>
 aA vS (eO x4) fun x5=>
 aG x5) (
 eN<|
 aA vI (wI (Int.tdiv a0 (10:Int))) fun x6=>
 aJ vS (fun x7=>[]) (jK nrec x6) fun x7=>
 aA vI (Int.tmod a0 (10:Int)) fun x8=>
 aA vI (wI ((48:Int) + x8)) fun x9=>
 aA (vK .u8) (IntKind.u8.wrap x9) fun x10=>
 aA (sx (cK .u8)) ([x10]:(List Int)) fun x11=>
 aA vS (eO x11) fun x12=>
 gdM (x7.length + x12.length≤9223372036854775807)<|
 aA vS (x7 ++ x12) fun x13=>
 aG x13)
 def ref01_Digits (a0:Int):Option (Str):=jK 64 a0
def gY:Nat→Int→Option (Str)
 | 0,_=>none
 | nrec + 1,a0=>
 aJ vB (fun x1=>[]) (p6 a0) fun x1=>
 aA vB (!x1) fun x2=>
 aF x2 (
 aG ([]:Str)) (
 aA vB (decide (a0 < (0:Int))) fun x3=>
 aF x3 (
 aA vI (wI (0 - a0)) fun x4=>
 aJ vS (fun x5=>[]) (gY nrec x4) fun x5=>
 gdM (([45]:Str).length + x5.length≤9223372036854775807)<|
 aA vS (([45]:Str) ++ x5) fun x6=>
 aG x6) (
 aA vI (wI (Int.tdiv a0 (1000:Int))) fun x7=>
 aJ vS (fun x8=>[]) (ref01_Digits x7) fun x8=>
 aA vI (Int.tmod a0 (1000:Int)) fun x9=>
 aA vB (decide (x9=(0:Int))) fun x10=>
 aF x10 (
 aG x8) (
 gdM (x8.length + ([46]:Str).length≤9223372036854775807)<|
 aA vS (x8 ++ ([46]:Str)) fun x11=>
 aA vI (wI (Int.tdiv x9 (100:Int))) fun x12=>
 aJ vS (fun x13=>[]) (ref01_Digits x12) fun x13=>
 gdM (x11.length + x13.length≤9223372036854775807)<|
 aA vS (x11 ++ x13) fun x14=>
 aA vI (Int.tmod x9 (100:Int)) fun x15=>
 aA vB (!decide (x15=(0:Int))) fun x16=>
 aF x16 (
 aA vI (wI (Int.tdiv x9 (10:Int))) fun x17=>
 aA vI (Int.tmod x17 (10:Int)) fun x18=>
 aJ vS (fun x19=>[]) (ref01_Digits x18) fun x19=>
 gdM (x14.length + x19.length≤9223372036854775807)<|
 aA vS (x14 ++ x19) fun x20=>
 aA vI (Int.tmod x9 (10:Int)) fun x21=>
 aA vB (!decide (x21=(0:Int))) fun x22=>
 aF x22 (
 aA vI (Int.tmod x9 (10:Int)) fun x23=>
 aJ vS (fun x24=>[]) (ref01_Digits x23) fun x24=>
 gdM (x20.length + x24.length≤9223372036854775807)<|
 aA vS (x20 ++ x24) fun x25=>
 aG x25) (
 aG x20)) (
 aA vI (Int.tmod x9 (10:Int)) fun x26=>
 aA vB (!decide (x26=(0:Int))) fun x27=>
 aF x27 (
 aA vI (Int.tmod x9 (10:Int)) fun x28=>
 aJ vS (fun x29=>[]) (ref01_Digits x28) fun x29=>
 gdM (x14.length + x29.length≤9223372036854775807)<|
 aA vS (x14 ++ x29) fun x30=>
 aG x30) (
 aG x14)))))
 def ref01_Print (a0:Int):Option (Str):=gY 64 a0
def qO (a0:cG):Option (Str) :=
 aJ vB (fun x1=>[.box [vS a0.S.Name,sl aH a0.S.M,vI a0.Op,vI a0.V]]) (pP a0) fun x1=>
 aA vB (!x1) fun x2=>
 aF x2 (
 aG ([]:Str)) (
 eN<|
 aJ vS (fun x3=>[.box [vS a0.S.Name,sl aH a0.S.M,vI a0.Op,vI a0.V]]) (qR a0.S) fun x3=>
 gdM (x3.length + ([32]:Str).length≤9223372036854775807)<|
 aA vS (x3 ++ ([32]:Str)) fun x4=>
 aJ (sl cS) (fun x5=>[.box [vS a0.S.Name,sl aH a0.S.M,vI a0.Op,vI a0.V]]) (vO) fun x5=>
 aA vI (wI (a0.Op - (1:Int))) fun x6=>
 bM x5 x6 fun x7=>
 gdM (x4.length + x7.length≤9223372036854775807)<|
 aA vS (x4 ++ x7) fun x8=>
 gdM (x8.length + ([32]:Str).length≤9223372036854775807)<|
 aA vS (x8 ++ ([32]:Str)) fun x9=>
 aJ vS (fun x10=>[.box [vS a0.S.Name,sl aH a0.S.M,vI a0.Op,vI a0.V]]) (ref01_Print a0.V) fun x10=>
 gdM (x9.length + x10.length≤9223372036854775807)<|
 aA vS (x9 ++ x10) fun x11=>
 aG x11)
def vR:Option ((List iK)) :=
 aA (sx pF) ([(⟨([100]:Str),(86400000:Int)⟩:iK),(⟨([104]:Str),(3600000:Int)⟩:iK),(⟨([109]:Str),(60000:Int)⟩:iK),(⟨([115]:Str),(1000:Int)⟩:iK),(⟨([109,115]:Str),(1:Int)⟩:iK)]:(List iK)) fun x1=>
 aG x1
def mF (a0:Int):Option (Str) :=
 aJ vB (fun x1=>[]) (l9 a0) fun x1=>
 aA vB (!x1) fun x2=>
 aF x2 (
 aG ([]:Str)) (
 aA vB (decide (a0=(0:Int))) fun x3=>
 aF x3 (
 aG ([48,115]:Str)) (
 aJ (sl pF) (fun x4=>[]) (vR) fun x4=>
 bQ (fun (x5:Int × Str × Int)=>[(0,vI x5.1),(3,vS x5.2.1),(4,sl pF x4),(5,vI x5.2.2)]) (fun (x5:Int × Str × Int)=>[]) (fun (x5:Int × Str × Int)=>
 aA vI ((x4.length:Int)) fun x6=>
 aA vB (decide (x5.2.2 < x6)) fun x7=>
 aF x7 (
 bM x4 x5.2.2 fun x8=>
 aA vB (decide (x8.Size≤x5.1)) fun x9=>
 aF x9 (
 eN<|
 gdM (x8.Size ≠ 0)<|
 aA vI (wI (Int.tdiv x5.1 x8.Size)) fun x10=>
 aJ vS (fun x11=>[]) (ref01_Digits x10) fun x11=>
 gdM (x5.2.1.length + x11.length≤9223372036854775807)<|
 aA vS (x5.2.1 ++ x11) fun x12=>
 gdM (x12.length + x8.Name.length≤9223372036854775807)<|
 aA vS (x12 ++ x8.Name) fun x13=>
 gdM (x8.Size ≠ 0)<|
 aA vI (Int.tmod x5.1 x8.Size) fun x14=>
 aA vI (wI (x5.2.2 + (1:Int))) fun x15=>
 aW (x14,x13,x15)) (
 gdM (x8.Size ≠ 0)<|
 aA vI (Int.tmod x5.1 x8.Size) fun x16=>
 aA vI (wI (x5.2.2 + (1:Int))) fun x17=>
 aW (x16,x5.2.1,x17))) (
 aQ<|
 aG x5.2.1)) (a0,([]:Str),(0:Int))))
def oD (a0:a6):Option (Str) :=
 aJ vB (fun x1=>[.box [vS a0.Name,vS a0.E.S.Name,sl aH a0.E.S.M,vI a0.E.Op,vI a0.E.V,vI a0.For,vI a0.Keep,sl aK a0.Labels]]) (pT a0) fun x1=>
 aA vB (!x1) fun x2=>
 aF x2 (
 aG ([]:Str)) (
 eN<|
 gdM (([114,117,108,101,32]:Str).length + a0.Name.length≤9223372036854775807)<|
 aA vS (([114,117,108,101,32]:Str) ++ a0.Name) fun x3=>
 gdM (x3.length + ([58,32]:Str).length≤9223372036854775807)<|
 aA vS (x3 ++ ([58,32]:Str)) fun x4=>
 aJ vS (fun x5=>[.box [vS a0.Name,vS a0.E.S.Name,sl aH a0.E.S.M,vI a0.E.Op,vI a0.E.V,vI a0.For,vI a0.Keep,sl aK a0.Labels]]) (qO a0.E) fun x5=>
 gdM (x4.length + x5.length≤9223372036854775807)<|
 aA vS (x4 ++ x5) fun x6=>
 vG (fun (x7:Str)=>[(1,.ptr 0 0),(3,vS x7)]) (fun (x7:Str)=>[.box [vS a0.Name,vS a0.E.S.Name,sl aH a0.E.S.M,vI a0.E.Op,vI a0.E.V,vI a0.For,vI a0.Keep,sl aK a0.Labels]]) (fun (x7:Str)=>
 vG (fun (x12:Str)=>[(1,.ptr 0 0),(3,vS x12)]) (fun (x12:Str)=>[.box [vS a0.Name,vS a0.E.S.Name,sl aH a0.E.S.M,vI a0.E.Op,vI a0.E.V,vI a0.For,vI a0.Keep,sl aK a0.Labels]]) (fun (x12:Str)=>
 bQ (fun (x17:Str × Int)=>[(1,.ptr 0 0),(3,vS x17.1),(4,vI x17.2)]) (fun (x17:Str × Int)=>[.box [vS a0.Name,vS a0.E.S.Name,sl aH a0.E.S.M,vI a0.E.Op,vI a0.E.V,vI a0.For,vI a0.Keep,sl aK a0.Labels]]) (fun (x17:Str × Int)=>
 aA vI ((a0.Labels.length:Int)) fun x18=>
 aA vB (decide (x17.2 < x18)) fun x19=>
 aF x19 (
 aA vB (decide (x17.2=(0:Int))) fun x20=>
 aF x20 (
 gdM (x17.1.length + ([32,108,97,98,101,108,115,32,123]:Str).length≤9223372036854775807)<|
 aA vS (x17.1 ++ ([32,108,97,98,101,108,115,32,123]:Str)) fun x21=>
 eN<|
 bM a0.Labels x17.2 fun x22=>
 gdM (x21.length + x22.Name.length≤9223372036854775807)<|
 aA vS (x21 ++ x22.Name) fun x23=>
 gdM (x23.length + ([61]:Str).length≤9223372036854775807)<|
 aA vS (x23 ++ ([61]:Str)) fun x24=>
 aJ vS (fun x25=>[.box [vS a0.Name,vS a0.E.S.Name,sl aH a0.E.S.M,vI a0.E.Op,vI a0.E.V,vI a0.For,vI a0.Keep,sl aK a0.Labels]]) (iL x22.Value) fun x25=>
 gdM (x24.length + x25.length≤9223372036854775807)<|
 aA vS (x24 ++ x25) fun x26=>
 aA vI (wI (x17.2 + (1:Int))) fun x27=>
 aW (x26,x27)) (
 gdM (x17.1.length + ([44]:Str).length≤9223372036854775807)<|
 aA vS (x17.1 ++ ([44]:Str)) fun x28=>
 eN<|
 bM a0.Labels x17.2 fun x29=>
 gdM (x28.length + x29.Name.length≤9223372036854775807)<|
 aA vS (x28 ++ x29.Name) fun x30=>
 gdM (x30.length + ([61]:Str).length≤9223372036854775807)<|
 aA vS (x30 ++ ([61]:Str)) fun x31=>
 aJ vS (fun x32=>[.box [vS a0.Name,vS a0.E.S.Name,sl aH a0.E.S.M,vI a0.E.Op,vI a0.E.V,vI a0.For,vI a0.Keep,sl aK a0.Labels]]) (iL x29.Value) fun x32=>
 gdM (x31.length + x32.length≤9223372036854775807)<|
 aA vS (x31 ++ x32) fun x33=>
 aA vI (wI (x17.2 + (1:Int))) fun x34=>
 aW (x33,x34))) (
 aQ<|
 aA vI ((a0.Labels.length:Int)) fun x35=>
 aA vB (decide ((0:Int) < x35)) fun x36=>
 aF x36 (
 gdM (x17.1.length + ([125]:Str).length≤9223372036854775807)<|
 aA vS (x17.1 ++ ([125]:Str)) fun x37=>
 gdM (x37.length + ([59]:Str).length≤9223372036854775807)<|
 aA vS (x37 ++ ([59]:Str)) fun x38=>
 aG x38) (
 gdM (x17.1.length + ([59]:Str).length≤9223372036854775807)<|
 aA vS (x17.1 ++ ([59]:Str)) fun x39=>
 aG x39))) (x12,(0:Int)))<|
 aA vB (decide ((0:Int) < a0.Keep)) fun x13=>
 aF x13 (
 gdM (x7.length + ([32,107,101,101,112,32]:Str).length≤9223372036854775807)<|
 aA vS (x7 ++ ([32,107,101,101,112,32]:Str)) fun x14=>
 aJ vS (fun x15=>[.box [vS a0.Name,vS a0.E.S.Name,sl aH a0.E.S.M,vI a0.E.Op,vI a0.E.V,vI a0.For,vI a0.Keep,sl aK a0.Labels]]) (mF a0.Keep) fun x15=>
 gdM (x14.length + x15.length≤9223372036854775807)<|
 aA vS (x14 ++ x15) fun x16=>
 aW x16) (
 aW x7))<|
 aA vB (decide ((0:Int) < a0.For)) fun x8=>
 aF x8 (
 gdM (x6.length + ([32,102,111,114,32]:Str).length≤9223372036854775807)<|
 aA vS (x6 ++ ([32,102,111,114,32]:Str)) fun x9=>
 aJ vS (fun x10=>[.box [vS a0.Name,vS a0.E.S.Name,sl aH a0.E.S.M,vI a0.E.Op,vI a0.E.V,vI a0.For,vI a0.Keep,sl aK a0.Labels]]) (mF a0.For) fun x10=>
 gdM (x9.length + x10.length≤9223372036854775807)<|
 aA vS (x9 ++ x10) fun x11=>
 aW x11) (
 aW x6))
def nN (a0:(List aI)) (a1:(List aI)) (a2:bE):Option (Bool) :=
 aJ (fun x1=>.tup [vI x1.1,vI x1.2.1,vB x1.2.2]) (fun x1=>[.box [vS a2.Group,vS a2.Rule]]) (nI a0 a2) fun x1=>
 aJ (fun x2=>.tup [vI x2.1,vI x2.2.1,vB x2.2.2]) (fun x2=>[.box [vS a2.Group,vS a2.Rule]]) (nI a1 a2) fun x2=>
 aA vB (!x1.2.2) fun x3=>
 aA vB (!x2.2.2) fun x4=>
 aA vB (bif x3 then true else x4) fun x5=>
 aF x5 (
 aG false) (
 eN<|
 bM a0 x1.1 fun x6=>
 bM x6.Rules x1.2.1 fun x7=>
 aJ vS (fun x8=>[.box [vS a2.Group,vS a2.Rule]]) (oD x7) fun x8=>
 bM a1 x2.1 fun x9=>
 bM x9.Rules x2.2.1 fun x10=>
 aJ vS (fun x11=>[.box [vS a2.Group,vS a2.Rule]]) (oD x10) fun x11=>
 aA vB (decide (x8=x11)) fun x12=>
 aF x12 (
 aA vB (decide (x6.Interval=x9.Interval)) fun x13=>
 aF x13 (
 aA vB (decide (x6.Offset=x9.Offset)) fun x14=>
 aG x14) (
 aG false)) (
 aG false))
def pC (a0:(List aI)) (a1:(List aI)):Option ((List bE) × (List bE) × (List bE)) :=
 aJ (sl a7) (fun x1=>[]) (nC a1) fun x1=>
 uX 7 2 47<|
 uX 8 2 47<|
 bQ (fun (x2:Int × (List bE) × (List bE))=>[(0,sl aD a0),(1,sl aD a1),(7,so 0 a7 x2.2.1),(8,so 1 a7 x2.2.2),(9,.v (.slice none 0 0)),(10,sl a7 x1),(11,vI x2.1)]) (fun (x2:Int × (List bE) × (List bE))=>[tk x2.2.1.length 2 47,tk x2.2.2.length 2 47]) (fun (x2:Int × (List bE) × (List bE))=>
 aA vI ((x1.length:Int)) fun x3=>
 aA vB (decide (x2.1 < x3)) fun x4=>
 aF x4 (
 bM x1 x2.1 fun x5=>
 aJ vB (fun x6=>[tk x2.2.1.length 2 47,tk x2.2.2.length 2 47]) (nN a0 a1 x5) fun x6=>
 aF x6 (
 aA (sx a7) ([x5]:(List bE)) fun x7=>
 gdM ((x2.2.1.length + x7.length) * 32≤140737488355328)<|
 d7 (so 0 a7) (fun x8=>[tk x8.length 2 47,tk x2.2.2.length 2 47]) (x2.2.1 ++ x7) fun x8=>
 aA vI (wI (x2.1 + (1:Int))) fun x9=>
 aW (x9,x8,x2.2.2)) (
 aA (sx a7) ([x5]:(List bE)) fun x10=>
 gdM ((x2.2.2.length + x10.length) * 32≤140737488355328)<|
 d7 (so 1 a7) (fun x11=>[tk x2.2.1.length 2 47,tk x11.length 2 47]) (x2.2.2 ++ x10) fun x11=>
 aA vI (wI (x2.1 + (1:Int))) fun x12=>
 aW (x12,x2.2.1,x11))) (
 aQ<|
 aJ (sl a7) (fun x13=>[tk x2.2.1.length 2 47,tk x2.2.2.length 2 47]) (nC a0) fun x13=>
 uX 9 2 47<|
 bQ (fun (x14:Int × (List bE))=>[(0,sl aD a0),(1,sl aD a1),(7,so 0 a7 x2.2.1),(8,so 1 a7 x2.2.2),(9,so 2 a7 x14.2),(12,sl a7 x13),(13,vI x14.1)]) (fun (x14:Int × (List bE))=>[tk x2.2.1.length 2 47,tk x2.2.2.length 2 47,tk x14.2.length 2 47]) (fun (x14:Int × (List bE))=>
 aA vI ((x13.length:Int)) fun x15=>
 aA vB (decide (x14.1 < x15)) fun x16=>
 aF x16 (
 bM x13 x14.1 fun x17=>
 aJ vB (fun x18=>[tk x2.2.1.length 2 47,tk x2.2.2.length 2 47,tk x14.2.length 2 47]) (nN a0 a1 x17) fun x18=>
 aA vB (!x18) fun x19=>
 aF x19 (
 aA (sx a7) ([x17]:(List bE)) fun x20=>
 gdM ((x14.2.length + x20.length) * 32≤140737488355328)<|
 d7 (so 2 a7) (fun x21=>[tk x2.2.1.length 2 47,tk x2.2.2.length 2 47,tk x21.length 2 47]) (x14.2 ++ x20) fun x21=>
 aA vI (wI (x14.1 + (1:Int))) fun x22=>
 aW (x22,x21)) (
 aA vI (wI (x14.1 + (1:Int))) fun x23=>
 aW (x23,x14.2))) (
 aQ<|
 aG (x2.2.1,x2.2.2,x14.2))) ((0:Int),([]:List bE)))) ((0:Int),([]:List bE),([]:List bE))
def eF (a0:(List bE)) (a1:(List bE)):Option (Bool) :=
 aA vI ((a0.length:Int)) fun x1=>
 aA vI ((a1.length:Int)) fun x2=>
 aA vB (!decide (x1=x2)) fun x3=>
 aF x3 (
 aG false) (
 bQ (fun (x4:Int)=>[(0,sl a7 a0),(1,sl a7 a1),(5,vI x4)]) (fun (x4:Int)=>[]) (fun (x4:Int)=>
 aA vI ((a0.length:Int)) fun x5=>
 aA vB (decide (x4 < x5)) fun x6=>
 aF x6 (
 bM a0 x4 fun x7=>
 bM a1 x4 fun x8=>
 aA vB (!(decide (x7.Group=x8.Group) && (decide (x7.Rule=x8.Rule) && true))) fun x9=>
 aF x9 (
 aQ<|
 aG false) (
 aA vI (wI (x4 + (1:Int))) fun x10=>
 aW x10)) (
 aQ<|
 aG true)) (0:Int))
end
end Go.Proofs.YthgenmkengbmmaaGreatDoor.AM
