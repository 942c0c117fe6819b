/- What the rules look at: never at what comes behind. -/
import Derived.Test.YtickejlolpoboaaAm26
set_option linter.all false
namespace Go.Proofs.Ytickejlolpoboaa.AM
open Go

@[congr] theorem aops_cg {P : Program} {ops : List Oper} {l : List Oper} {s s' : AS} {K : AS → Prop} {E : AV → List Obj → Prop} (hs : s = s') : aops P ops l s K E = aops P ops l s' K E := by subst hs; rfl
@[congr] theorem aopsQ_cg {P : Program} {ops : List Oper} {l : List Oper} {s s' : AS} {K : AS → Prop} (hs : s = s') : aopsQ P ops l s K = aopsQ P ops l s' K := by subst hs; rfl
@[congr] theorem aopsC_cg {P : Program} {ops : Array Oper} {l : List Oper} {s s' : AS} {K : AS → Prop} (hs : s = s') : aopsC P ops l s K = aopsC P ops l s' K := by subst hs; rfl
@[congr] theorem guardAV_cg {P : Program} {ops : List Oper} {s : AS} {o : Oper} {now : AS → Prop} {run : Prop} {skip : Prop}  : guardAV P ops s o now run skip = guardAV P ops s o now run skip := rfl
@[congr] theorem aop_cg {P : Program} {o : Oper} {s : AS} {K : AS → Prop} {E : AV → List Obj → Prop}  : aop P o s K E = aop P o s K E := rfl
@[congr] theorem loadAV_cg {P : Program} {objs objs' : List Obj} {t : TypeId} {x x' : AV} {k : AV → Prop} (hobjs : objs = objs') (hx : x = x') : loadAV P objs t x k = loadAV P objs' t x' k := by subst hobjs; subst hx; rfl
@[congr] theorem storeAV_cg {P : Program} {objs objs' : List Obj} {t : TypeId} {a a' : AV} {x x' : AV} {k : List Obj → Prop} (hobjs : objs = objs') (ha : a = a') (hx : x = x') : storeAV P objs t a x k = storeAV P objs' t a' x' k := by subst hobjs; subst ha; subst hx; rfl
@[congr] theorem buildAV_cg {P : Program} {t : TypeId} {parts parts' : List (Nat × AV)} {k : AV → Prop} (hparts : parts = parts') : buildAV P t parts k = buildAV P t parts' k := by subst hparts; rfl
@[congr] theorem buildSliceAV_cg {P : Program} {t : TypeId} {len : Nat} {parts parts' : List (Nat × AV)} {k : AV → Prop} (hparts : parts = parts') : buildSliceAV P t len parts k = buildSliceAV P t len parts' k := by subst hparts; rfl
@[congr] theorem makeSliceAV_cg {P : Program} {t : TypeId} {objs objs' : List Obj} {l l' : AV} {c c' : AV} {k : AV → List Obj → Prop} (hobjs : objs = objs') (hl : l = l') (hc : c = c') : makeSliceAV P t objs l c k = makeSliceAV P t objs' l' c' k := by subst hobjs; subst hl; subst hc; rfl
@[congr] theorem sliceAV_cg {P : Program} {t : TypeId} {x x' : AV} {lo lo' : Option AV} {hi hi' : Option AV} {mx mx' : Option AV} {k : AV → Prop} (hx : x = x') (hlo : lo = lo') (hhi : hi = hi') (hmx : mx = mx') : sliceAV P t x lo hi mx k = sliceAV P t x' lo' hi' mx' k := by subst hx; subst hlo; subst hhi; subst hmx; rfl
@[congr] theorem fieldAddrAV_cg {P : Program} {t : TypeId} {f : Nat} {x x' : AV} {k : AV → Prop} (hx : x = x') : fieldAddrAV P t f x k = fieldAddrAV P t f x' k := by subst hx; rfl
@[congr] theorem fieldAV_cg {P : Program} {t : TypeId} {f : Nat} {x x' : AV} {k : AV → Prop} (hx : x = x') : fieldAV P t f x k = fieldAV P t f x' k := by subst hx; rfl
@[congr] theorem indexAddrAV_cg {P : Program} {t : TypeId} {x x' : AV} {ix ix' : AV} {k : AV → Prop} (hx : x = x') (hix : ix = ix') : indexAddrAV P t x ix k = indexAddrAV P t x' ix' k := by subst hx; subst hix; rfl
@[congr] theorem indexAV_cg {P : Program} {t : TypeId} {x x' : AV} {ix ix' : AV} {k : AV → Prop} (hx : x = x') (hix : ix = ix') : indexAV P t x ix k = indexAV P t x' ix' k := by subst hx; subst hix; rfl
@[congr] theorem partAV_cg {j : TI} {cs cs' : List AV} {off : Nat} {k : AV → Prop} (hcs : cs = cs') : partAV j cs off k = partAV j cs' off k := by subst hcs; rfl
@[congr] theorem extractAV_cg {x x' : AV} {i : Nat} {k : AV → Prop} (hx : x = x') : extractAV x i k = extractAV x' i k := by subst hx; rfl
@[congr] theorem unAV_cg {op : UnOp} {x x' : AV} {k : AV → Prop} (hx : x = x') : unAV op x k = unAV op x' k := by subst hx; rfl
@[congr] theorem convAV_cg {P : Program} {src : TypeId} {dst : TypeId} {x x' : AV} {k : AV → Prop} (hx : x = x') : convAV P src dst x k = convAV P src dst x' k := by subst hx; rfl
@[congr] theorem nilCheckAV_cg {x x' : AV} {k : AV → Prop} (hx : x = x') : nilCheckAV x k = nilCheckAV x' k := by subst hx; rfl
@[congr] theorem minmaxAV_cg {least : Bool} {xs xs' : List AV} {k : AV → Prop} (hxs : xs = xs') : minmaxAV least xs k = minmaxAV least xs' k := by subst hxs; rfl
@[congr] theorem appendAV_cg {P : Program} {t : TypeId} {xt : TypeId} {objs objs' : List Obj} {s s' : AV} {x x' : AV} {k : AV → List Obj → Prop} (hobjs : objs = objs') (hs : s = s') (hx : x = x') : appendAV P t xt objs s x k = appendAV P t xt objs' s' x' k := by subst hobjs; subst hs; subst hx; rfl
@[congr] theorem builtinAV_cg {P : Program} {b : Builtin} {ts ts' : List TypeId} {xs xs' : List AV} {objs objs' : List Obj} {k : AV → List Obj → Prop} (hts : ts = ts') (hxs : xs = xs') (hobjs : objs = objs') : builtinAV P b ts xs objs k = builtinAV P b ts' xs' objs' k := by subst hts; subst hxs; subst hobjs; rfl
@[congr] theorem lenAV_cg {P : Program} {t : TypeId} {x x' : AV} {k : AV → Prop} (hx : x = x') : lenAV P t x k = lenAV P t x' k := by subst hx; rfl
@[congr] theorem binAV_cg {P : Program} {op : BinOp} {t : TypeId} {x x' : AV} {y y' : AV} {k : AV → Prop} (hx : x = x') (hy : y = y') : binAV P op t x y k = binAV P op t x' y' k := by subst hx; subst hy; rfl
@[congr] theorem sbin_cg {op : BinOp} {x x' : Value} {y y' : Value} {k : Value → Prop} (hx : x = x') (hy : y = y') : sbin op x y k = sbin op x' y' k := by subst hx; subst hy; rfl
@[congr] theorem sint_cg {op : BinOp} {q : IntKind} {a a' : Int} {b b' : Int} {k : Value → Prop} (ha : a = a') (hb : b = b') : sint op q a b k = sint op q a' b' k := by subst ha; subst hb; rfl
@[congr] theorem sstr_cg {op : BinOp} {a a' : ByteArray} {b b' : ByteArray} {k : Value → Prop} (ha : a = a') (hb : b = b') : sstr op a b k = sstr op a' b' k := by subst ha; subst hb; rfl
@[congr] theorem sbool_cg {op : BinOp} {a a' : Bool} {b b' : Bool} {k : Value → Prop} (ha : a = a') (hb : b = b') : sbool op a b k = sbool op a' b' k := by subst ha; subst hb; rfl
@[congr] theorem lookupAV_cg {P : Program} {objs objs' : List Obj} {t : TypeId} {m m' : AV} {k k' : AV} {ok : Bool} {K : AV → Prop} (hobjs : objs = objs') (hm : m = m') (hk : k = k') : lookupAV P objs t m k ok K = lookupAV P objs' t m' k' ok K := by subst hobjs; subst hm; subst hk; rfl
@[congr] theorem mapUpdateAV_cg {P : Program} {objs objs' : List Obj} {t : TypeId} {m m' : AV} {k k' : AV} {x x' : AV} {K : List Obj → Prop} (hobjs : objs = objs') (hm : m = m') (hk : k = k') (hx : x = x') : mapUpdateAV P objs t m k x K = mapUpdateAV P objs' t m' k' x' K := by subst hobjs; subst hm; subst hk; subst hx; rfl
@[congr] theorem pickAV_cg {c c' : AV} {x x' : AV} {y y' : AV} {k : AV → Prop} (hc : c = c') (hx : x = x') (hy : y = y') : pickAV c x y k = pickAV c' x' y' k := by subst hc; subst hx; subst hy; rfl
@[congr] theorem callAV_cg {P : Program} {f : Nat} {args args' : List AV} {objs objs' : List Obj} {K : AV → List Obj → Prop} {E : AV → List Obj → Prop} (hargs : args = args') (hobjs : objs = objs') : callAV P f args objs K E = callAV P f args' objs' K E := by subst hargs; subst hobjs; rfl
end Go.Proofs.Ytickejlolpoboaa.AM
