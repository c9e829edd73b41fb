/- Parts of the proof: ALab, Ty. -/
import Derived.Test.YtbffmfeldkjkcaaGreatProg
import Derived.Test.YtbffmfeldkjkcaaGreatG06
set_option linter.unusedSimpArgs false
set_option linter.unusedVariables false
set_option maxHeartbeats 0
section
namespace Go.AV
open Go Go.RowKit Go.Flow
section
variable{F:Fence}{n:Nat}{P:Program}{Q:Exit→Act→World→Prop}{a:Act}{w:World}
theorem zGd{b:Frame}{k:List Item}{cs:List Frame}{c:Code}:step P (lone (b.atR a (.code (.scope c)::k)) cs w)=.next (lone (b.atR a (.code c:: .inScope c::k)) cs w):=
 step_lone_go (by simp[stepG,stepG.exec,Frame.atR])
theorem zSf{b:Frame}{k:List Item}{cs:List Frame}{c:Code}:step P (lone (b.atR a (.inScope c::k)) cs w)=.next (lone (b.atR a k) cs w):=
 step_lone_go (by simp[stepG,stepG.exec,Frame.atR])
theorem zSX{c:Code}(hg:∀l a w,¬Q (.goto l) a w)(h:c.wpIn F n P Q a w):(Code.scope c).wpIn F n P Q a w:=by
 intro b k cs hro hb hr;have h0:(lone (b.atR a (.code (.scope c)::k)) cs w).fenced P F:=fenced_calm hb hr rfl
 obtain⟨e,a₁,w₁,hq,harr⟩:=h b (.inScope c::k) cs hro hb hr
 cases e with
 |normal=>exact⟨.normal,a₁,w₁,hq,.head h0 zGd (StepsIn.trans harr (.one (fenced_calm hb hr rfl) zSf))⟩
 | exit id=>
   have hx:exitTo id (.inScope c::k)=exitTo id k:=by simp[exitTo]
   exact⟨.exit id,a₁,w₁,hq,.of_steps (.one h0 zGd) (e:=.exit id) ⟨fun k' hk=>harr.1 k' (by rw[hx];exact hk),fun hr1 hk=>harr.2 hr1 (by rw[hx];exact hk)⟩⟩
 |goto l=>exact(hg l _ _ hq).elim
 |ret=>exact⟨_,a₁,w₁,hq,.of_steps (.one h0 zGd) (e:=.ret) harr⟩
 |panic ch=>exact⟨_,a₁,w₁,hq,.of_steps (.one h0 zGd) (e:=.panic ch) harr⟩
 |outgrown=>exact⟨_,a₁,w₁,hq,.of_steps (.one h0 zGd) (e:=.outgrown) harr⟩
end
section
variable{P:Program}{S:St}{Q:Exit→St→Prop}
theorem AWp.scope{c:Code}(hg:∀l S,¬Q (.goto l) S)(h:AWp P c Q S):AWp P (.scope c) Q S:=⟨fun b0 a w hR=>
 zSX (fun _ _ _ ⟨_,_,h⟩=>hg _ _ h) (h.get b0 a w hR)⟩
theorem AWp.label{l:Nat}(h:Q .normal S):AWp P (.label l) Q S:=⟨fun b0 a w hR=>wpIn_label ⟨S,hR,h⟩⟩
end
end Go.AV
end
section
namespace Go.Proofs.YtbffmfeldkjkcaaGreat
open Go.RowKit Go.Flow Go.AV
def zGk:List (TypeId×TD):= [(1,⟨.one,1,8,[.nilFunc]⟩),
 (2,⟨.one,1,8,[.int .i64 0]⟩),
 (3,⟨.one,1,8,[.int .i64 0]⟩),
 (4,⟨.one,1,1,[.bool false]⟩),
 (5,⟨.one,1,1,[.int .u8 0]⟩),
 (6,⟨.one,1,1,[.int .u8 0]⟩),
 (7,⟨.st [(0,1),(1,1),(2,1),(3,1)],4,24,[.int .i64 0,.int .i64 0,.bool false,.int .u8 0]⟩),
 (8,⟨.st [(0,1),(1,1),(2,1),(3,1)],4,24,[.int .i64 0,.int .i64 0,.bool false,.int .u8 0]⟩),
 (9,⟨.one,1,16,[.string ⟨#[]⟩]⟩),
 (10,⟨.one,1,16,[.string ⟨#[]⟩]⟩),
 (11,⟨.one,1,16,[.string ⟨#[]⟩]⟩),
 (12,⟨.one,1,8,[.int .u64 0]⟩),
 (13,⟨.st [(0,1),(1,1)],2,24,[.string ⟨#[]⟩,.int .u64 0]⟩),
 (14,⟨.st [(0,1),(1,1)],2,24,[.string ⟨#[]⟩,.int .u64 0]⟩),
 (15,⟨.one,1,8,[.pointer none]⟩),
 (16,⟨.one,1,8,[.pointer none]⟩),
 (17,⟨.one,1,8,[.pointer none]⟩),
 (18,⟨.st [(0,1)],1,8,[.pointer none]⟩),
 (19,⟨.st [(0,1)],1,8,[.pointer none]⟩),
 (20,⟨.one,1,16,[.nilIface]⟩),
 (21,⟨.one,1,4,[.int .i32 0]⟩),
 (22,⟨.sl 23,1,24,[.slice none 0 0]⟩),
 (23,⟨.sl 3,1,24,[.slice none 0 0]⟩),
 (24,⟨.arr 3 3,3,24,[.int .i64 0,.int .i64 0,.int .i64 0]⟩),
 (25,⟨.arr 2 3,2,16,[.int .i64 0,.int .i64 0]⟩),
 (26,⟨.st [(0,1),(1,1),(2,1),(3,3),(6,2)],8,112,[.slice none 0 0,.slice none 0 0,.slice none 0 0,.int .i64 0,.int .i64 0,.int .i64 0,.int .i64 0,.int .i64 0]⟩),
 (27,⟨.st [(0,1),(1,1),(2,1),(3,3),(6,2)],8,112,[.slice none 0 0,.slice none 0 0,.slice none 0 0,.int .i64 0,.int .i64 0,.int .i64 0,.int .i64 0,.int .i64 0]⟩),
 (28,⟨.one,1,8,[.nilFunc]⟩),
 (29,⟨.sl 73,1,24,[.slice none 0 0]⟩),
 (30,⟨.sl 31,1,24,[.slice none 0 0]⟩),
 (31,⟨.sl 58,1,24,[.slice none 0 0]⟩),
 (32,⟨.sl 61,1,24,[.slice none 0 0]⟩),
 (33,⟨.st [(0,1),(1,1),(2,1),(3,1),(4,1)],5,120,[.slice none 0 0,.slice none 0 0,.slice none 0 0,.slice none 0 0,.slice none 0 0]⟩),
 (34,⟨.st [(0,1),(1,1),(2,1),(3,1),(4,1)],5,120,[.slice none 0 0,.slice none 0 0,.slice none 0 0,.slice none 0 0,.slice none 0 0]⟩),
 (35,⟨.sl 63,1,24,[.slice none 0 0]⟩),
 (37,⟨.one,1,8,[.nilFunc]⟩),
 (38,⟨.one,1,8,[.nilFunc]⟩),
 (39,⟨.one,1,8,[.nilFunc]⟩),
 (40,⟨.st [(0,1),(1,1),(2,1)],3,72,[.slice none 0 0,.slice none 0 0,.slice none 0 0]⟩),
 (41,⟨.st [(0,1),(1,1),(2,1)],3,72,[.slice none 0 0,.slice none 0 0,.slice none 0 0]⟩),
 (42,⟨.one,1,8,[.int .i64 0]⟩),
 (44,⟨.one,1,8,[.nilFunc]⟩),
 (45,⟨.one,1,8,[.nilFunc]⟩),
 (46,⟨.one,1,8,[.nilFunc]⟩),
 (47,⟨.one,1,8,[.nilFunc]⟩),
 (48,⟨.arr 3 41,9,216,[.slice none 0 0,.slice none 0 0,.slice none 0 0,.slice none 0 0,.slice none 0 0,.slice none 0 0,.slice none 0 0,.slice none 0 0,.slice none 0 0]⟩),
 (49,⟨.sl 54,1,24,[.slice none 0 0]⟩),
 (51,⟨.one,1,8,[.nilFunc]⟩),
 (52,⟨.one,1,8,[.nilFunc]⟩),
 (53,⟨.one,1,8,[.nilFunc]⟩),
 (54,⟨.sl 68,1,24,[.slice none 0 0]⟩),
 (55,⟨.one,1,8,[.nilFunc]⟩),
 (56,⟨.sl 4,1,24,[.slice none 0 0]⟩),
 (57,⟨.st [(0,1),(1,1),(2,1)],3,40,[.int .i64 0,.int .i64 0,.slice none 0 0]⟩),
 (58,⟨.st [(0,1),(1,1),(2,1)],3,40,[.int .i64 0,.int .i64 0,.slice none 0 0]⟩),
 (59,⟨.one,1,8,[.nilFunc]⟩),
 (60,⟨.st [(0,1),(1,1),(2,1),(3,1)],4,32,[.int .i64 0,.int .i64 0,.int .i64 0,.int .i64 0]⟩),
 (61,⟨.st [(0,1),(1,1),(2,1),(3,1)],4,32,[.int .i64 0,.int .i64 0,.int .i64 0,.int .i64 0]⟩),
 (62,⟨.st [(0,3),(3,1),(4,4)],8,96,[.int .i64 0,.int .i64 0,.slice none 0 0,.slice none 0 0,.int .i64 0,.int .i64 0,.int .i64 0,.int .i64 0]⟩),
 (63,⟨.st [(0,3),(3,1),(4,4)],8,96,[.int .i64 0,.int .i64 0,.slice none 0 0,.slice none 0 0,.int .i64 0,.int .i64 0,.int .i64 0,.int .i64 0]⟩),
 (64,⟨.one,1,8,[.nilFunc]⟩),
 (65,⟨.st [(0,1),(1,1),(2,1)],3,24,[.int .i64 0,.int .i64 0,.int .i64 0]⟩),
 (66,⟨.st [(0,1),(1,1),(2,1)],3,24,[.int .i64 0,.int .i64 0,.int .i64 0]⟩),
 (67,⟨.st [(0,1),(1,1),(2,1),(3,1),(4,1),(5,3)],8,64,[.int .i64 0,.int .i64 0,.int .i64 0,.int .i64 0,.bool false,.int .i64 0,.int .i64 0,.int .i64 0]⟩),
 (68,⟨.st [(0,1),(1,1),(2,1),(3,1),(4,1),(5,3)],8,64,[.int .i64 0,.int .i64 0,.int .i64 0,.int .i64 0,.bool false,.int .i64 0,.int .i64 0,.int .i64 0]⟩),
 (69,⟨.one,1,8,[.nilFunc]⟩),
 (70,⟨.one,1,8,[.nilFunc]⟩),
 (71,⟨.one,1,8,[.nilFunc]⟩),
 (72,⟨.st [(0,1),(1,1)],2,16,[.int .i64 0,.int .i64 0]⟩),
 (73,⟨.st [(0,1),(1,1)],2,16,[.int .i64 0,.int .i64 0]⟩),
 (74,⟨.one,1,8,[.nilFunc]⟩),
 (75,⟨.one,1,8,[.nilFunc]⟩),
 (76,⟨.one,1,8,[.nilFunc]⟩),
 (77,⟨.one,1,8,[.nilFunc]⟩),
 (79,⟨.one,1,8,[.nilFunc]⟩),
 (80,⟨.one,1,8,[.nilFunc]⟩),
 (81,⟨.one,1,8,[.nilFunc]⟩),
 (82,⟨.one,1,8,[.nilFunc]⟩),
 (84,⟨.one,1,8,[.nilFunc]⟩),
 (85,⟨.one,1,8,[.nilFunc]⟩),
 (86,⟨.one,1,8,[.nilFunc]⟩),
 (87,⟨.one,1,8,[.nilFunc]⟩),
 (88,⟨.one,1,8,[.nilFunc]⟩),
 (90,⟨.one,1,8,[.nilFunc]⟩),
 (91,⟨.one,1,8,[.nilFunc]⟩),
 (92,⟨.one,1,8,[.nilFunc]⟩),
 (93,⟨.one,1,8,[.nilFunc]⟩),
 (95,⟨.one,1,8,[.nilFunc]⟩),
 (96,⟨.one,1,8,[.pointer none]⟩),
 (97,⟨.st [(0,1),(1,1)],2,32,[.slice none 0 0,.int .i64 0]⟩),
 (98,⟨.st [(0,1),(1,1)],2,32,[.slice none 0 0,.int .i64 0]⟩),
 (99,⟨.one,1,8,[.nilFunc]⟩),
 (100,⟨.one,1,8,[.nilFunc]⟩),
 (102,⟨.one,1,8,[.nilFunc]⟩),
 (103,⟨.one,1,8,[.nilFunc]⟩),
 (104,⟨.one,1,8,[.nilFunc]⟩),
 (105,⟨.one,1,8,[.nilFunc]⟩),
 (106,⟨.one,1,8,[.nilFunc]⟩),
 (107,⟨.one,1,8,[.pointer none]⟩),
 (108,⟨.one,1,8,[.nilFunc]⟩),
 (109,⟨.one,1,8,[.nilFunc]⟩),
 (110,⟨.one,1,8,[.nilFunc]⟩),
 (111,⟨.one,1,8,[.nilFunc]⟩),
 (112,⟨.one,1,8,[.nilFunc]⟩),
 (113,⟨.one,1,8,[.nilFunc]⟩),
 (114,⟨.one,1,8,[.pointer none]⟩),
 (115,⟨.one,1,8,[.map none]⟩),
 (116,⟨.st [(0,5),(5,1),(6,1)],7,136,[.slice none 0 0,.slice none 0 0,.slice none 0 0,.slice none 0 0,.slice none 0 0,.map none,.int .i64 0]⟩),
 (117,⟨.st [(0,5),(5,1),(6,1)],7,136,[.slice none 0 0,.slice none 0 0,.slice none 0 0,.slice none 0 0,.slice none 0 0,.map none,.int .i64 0]⟩),
 (118,⟨.one,1,8,[.nilFunc]⟩),
 (119,⟨.one,1,8,[.nilFunc]⟩),
 (120,⟨.one,1,8,[.pointer none]⟩),
 (121,⟨.st [(0,5),(5,1)],6,128,[.slice none 0 0,.slice none 0 0,.slice none 0 0,.slice none 0 0,.slice none 0 0,.int .i64 0]⟩),
 (122,⟨.st [(0,5),(5,1)],6,128,[.slice none 0 0,.slice none 0 0,.slice none 0 0,.slice none 0 0,.slice none 0 0,.int .i64 0]⟩),
 (123,⟨.one,1,8,[.pointer none]⟩),
 (124,⟨.st [(0,5),(5,1)],6,144,[.slice none 0 0,.slice none 0 0,.slice none 0 0,.slice none 0 0,.slice none 0 0,.slice none 0 0]⟩),
 (125,⟨.st [(0,5),(5,1)],6,144,[.slice none 0 0,.slice none 0 0,.slice none 0 0,.slice none 0 0,.slice none 0 0,.slice none 0 0]⟩),
 (126,⟨.one,1,8,[.nilFunc]⟩),
 (127,⟨.one,1,8,[.nilFunc]⟩),
 (128,⟨.one,1,8,[.nilFunc]⟩),
 (129,⟨.one,1,8,[.nilFunc]⟩),
 (130,⟨.one,1,8,[.nilFunc]⟩),
 (131,⟨.one,1,8,[.nilFunc]⟩),
 (132,⟨.one,1,8,[.nilFunc]⟩),
 (134,⟨.one,1,8,[.nilFunc]⟩),
 (136,⟨.one,1,8,[.nilFunc]⟩),
 (137,⟨.one,1,8,[.nilFunc]⟩),
 (138,⟨.one,1,8,[.nilFunc]⟩),
 (139,⟨.one,1,8,[.nilFunc]⟩),
 (140,⟨.st [(0,1),(1,1)],2,16,[.int .i64 0,.int .i64 0]⟩),
 (141,⟨.st [(0,1),(1,1)],2,16,[.int .i64 0,.int .i64 0]⟩),
 (142,⟨.one,1,8,[.nilFunc]⟩),
 (143,⟨.one,1,8,[.nilFunc]⟩),
 (144,⟨.one,1,8,[.nilFunc]⟩),
 (146,⟨.one,1,8,[.nilFunc]⟩),
 (147,⟨.st [(0,2),(2,2)],4,32,[.int .i64 0,.int .i64 0,.int .i64 0,.int .i64 0]⟩),
 (148,⟨.st [(0,2),(2,2)],4,32,[.int .i64 0,.int .i64 0,.int .i64 0,.int .i64 0]⟩),
 (150,⟨.one,1,8,[.nilFunc]⟩),
 (151,⟨.one,1,8,[.nilFunc]⟩),
 (152,⟨.one,1,8,[.nilFunc]⟩),
 (153,⟨.one,1,8,[.nilFunc]⟩),
 (154,⟨.st [(0,3),(3,3),(6,4),(10,4)],14,144,[.int .i64 0,.int .i64 0,.slice none 0 0,.int .i64 0,.int .i64 0,.slice none 0 0,.int .i64 0,.int .i64 0,.int .i64 0,.int .i64 0,.int .i64 0,.int .i64 0,.int .i64 0,.int .i64 0]⟩),
 (155,⟨.st [(0,3),(3,3),(6,4),(10,4)],14,144,[.int .i64 0,.int .i64 0,.slice none 0 0,.int .i64 0,.int .i64 0,.slice none 0 0,.int .i64 0,.int .i64 0,.int .i64 0,.int .i64 0,.int .i64 0,.int .i64 0,.int .i64 0,.int .i64 0]⟩),
 (156,⟨.sl 159,1,24,[.slice none 0 0]⟩),
 (157,⟨.one,1,8,[.nilFunc]⟩),
 (158,⟨.st [(0,1),(1,1)],2,16,[.int .i64 0,.int .i64 0]⟩),
 (159,⟨.st [(0,1),(1,1)],2,16,[.int .i64 0,.int .i64 0]⟩),
 (160,⟨.one,1,8,[.nilFunc]⟩),
 (161,⟨.one,1,8,[.nilFunc]⟩),
 (162,⟨.one,1,8,[.nilFunc]⟩),
 (163,⟨.one,1,8,[.nilFunc]⟩),
 (164,⟨.sl 66,1,24,[.slice none 0 0]⟩),
 (165,⟨.one,1,8,[.nilFunc]⟩),
 (166,⟨.one,1,8,[.nilFunc]⟩),
 (167,⟨.one,1,8,[.nilFunc]⟩),
 (168,⟨.one,1,8,[.nilFunc]⟩),
 (169,⟨.one,1,8,[.nilFunc]⟩),
 (170,⟨.sl 25,1,24,[.slice none 0 0]⟩),
 (171,⟨.one,1,8,[.nilFunc]⟩),
 (172,⟨.one,1,8,[.nilFunc]⟩),
 (173,⟨.one,1,8,[.nilFunc]⟩),
 (174,⟨.one,1,8,[.nilFunc]⟩),
 (176,⟨.one,1,8,[.nilFunc]⟩),
 (177,⟨.one,1,8,[.nilFunc]⟩),
 (178,⟨.one,1,8,[.nilFunc]⟩),
 (179,⟨.st [(0,1),(1,1)],2,16,[.int .i64 0,.int .i64 0]⟩),
 (180,⟨.st [(0,1),(1,1)],2,16,[.int .i64 0,.int .i64 0]⟩),
 (181,⟨.one,1,8,[.nilFunc]⟩),
 (182,⟨.one,1,8,[.nilFunc]⟩),
 (183,⟨.one,1,8,[.nilFunc]⟩),
 (184,⟨.one,1,8,[.nilFunc]⟩),
 (185,⟨.one,1,8,[.int .u64 0]⟩),
 (186,⟨.one,1,8,[.nilFunc]⟩),
 (187,⟨.st [(0,1),(1,1),(2,1),(3,1)],4,40,[.pointer none,.pointer none,.pointer none,.string ⟨#[]⟩]⟩),
 (188,⟨.st [(0,1),(1,1),(2,1),(3,1)],4,40,[.pointer none,.pointer none,.pointer none,.string ⟨#[]⟩]⟩),
 (189,⟨.arr 0 16,0,0,[]⟩),
 (190,⟨.st [(0,0)],0,0,[]⟩),
 (191,⟨.st [(0,0)],0,0,[]⟩),
 (192,⟨.one,1,4,[.int .u32 0]⟩),
 (193,⟨.one,1,1,[.int .u8 0]⟩),
 (194,⟨.one,1,1,[.int .u8 0]⟩),
 (195,⟨.one,1,8,[.nilFunc]⟩),
 (196,⟨.one,1,8,[.pointer none]⟩),
 (197,⟨.one,1,4,[.int .i32 0]⟩),
 (198,⟨.one,1,4,[.int .i32 0]⟩),
 (199,⟨.st [(0,1),(1,1),(2,1),(3,1),(4,1),(5,1),(6,1),(7,1),(8,1),(9,1),(10,1)],11,48,[.int .u64 0,.int .u64 0,.int .u32 0,.int .u8 0,.int .u8 0,.int .u8 0,.int .u8 0,.nilFunc,.pointer none,.int .i32 0,.int .i32 0]⟩),
 (200,⟨.st [(0,1),(1,1),(2,1),(3,1),(4,1),(5,1),(6,1),(7,1),(8,1),(9,1),(10,1)],11,48,[.int .u64 0,.int .u64 0,.int .u32 0,.int .u8 0,.int .u8 0,.int .u8 0,.int .u8 0,.nilFunc,.pointer none,.int .i32 0,.int .i32 0]⟩),
 (201,⟨.one,1,8,[.pointer none]⟩)]
theorem zA:zAq Tryz.prog zGk=true:=by kernel_rfl
theorem zK:Tryz.prog.follows .mixedOrders=true:=by kernel_rfl
section
variable{P:Program}{ops:Array Oper}{rest:List Oper}{acc:List (List Nat×List Nat)}{S:St}{Q:List (List Nat×List Nat)→St→Prop}{dst:Option Tmp}{ty:TypeId}{pos:String}{after:Array Edge}{guard:Option (Nat×Bool)}
theorem kA{x:Operand}{y:AV}(hk:AList P ops rest (([],[])::acc) (S.eff dst ⟨y,[],[]⟩) Q)(hw:S.wants ops {dst,op:=.move x,type:=ty,pos,after,guard}=some true:=by exact rfl)(hd:dOk S.n dst=true:=by exact rfl)(hx:S.opd x=some y:=by exact rfl):AList P ops ({dst,op:=.move x,type:=ty,pos,after,guard}::rest) acc S Q:=AList.move hw hd hx hk
theorem kC{x:Operand}{y:AV}(hk:AList P ops rest (([],[])::acc) (S.eff dst ⟨y,[],[]⟩) Q)(hw:S.wants ops {dst,op:=.assign x,type:=ty,pos,after,guard}=some true:=by exact rfl)(hd:dOk S.n dst=true:=by exact rfl)(hx:S.opd x=some y:=by exact rfl):AList P ops ({dst,op:=.assign x,type:=ty,pos,after,guard}::rest) acc S Q:=AList.assign hw hd hx hk
theorem kD{s:TypeId}{x:Operand}{f id sz k j off size:Nat}{d:TD}{parts:List (Nat×Nat)}(hn:AList Tryz.prog ops rest (([],[])::acc) (S.eff dst ⟨.c (.pt id sz k (j+off)),[],[]⟩) Q)(hw:S.wants ops {dst,op:=.fieldAddr s x f,type:=ty,pos,after,guard}=some true:=by exact rfl)(hd:dOk S.n dst=true:=by exact rfl)(hx:S.opd x=some (.c (.pt id sz k j)):=by exact rfl)(ht:zD zGk s=some d:=by exact rfl)(hk:d.k=.st parts:=by exact rfl)(hp:parts[f]?=some (off,size):=by exact rfl)(hs:Nat.beq size 0=false:=by exact rfl):
  AList Tryz.prog ops ({dst,op:=.fieldAddr s x f,type:=ty,pos,after,guard}::rest) acc S Q:=zOp zA hw hd hx ht hk hp hs hn
theorem kE{t:TypeId}{x:Operand}{id sz k j:Nat}{B:AB}{d:TD}(hn:AList Tryz.prog ops rest (([id],[])::acc) (S.eff dst ⟨.c (B.F k j),[],[]⟩) Q)(hw:S.wants ops {dst,op:=.load t x,type:=ty,pos,after,guard}=some true:=by exact rfl)(hd:dOk S.n dst=true:=by exact rfl)(hx:S.opd x=some (.c (.pt id sz k j)):=by exact rfl)(hh:S.h id=some B:=by exact rfl)(hs:B.sz=sz:=by exact rfl)(ht:zD zGk t=some d:=by exact rfl)(hk:zDy d.k=true:=by exact rfl)(hkn:k<B.n:=by exact oM)(hj:j<B.sz:=by exact oM):
  AList Tryz.prog ops ({dst,op:=.load t x,type:=ty,pos,after,guard}::rest) acc S Q:=zHH zA hw hd hx hh hs ht hk hkn hj hn
theorem kF{t:TypeId}{x:Operand}{id sz k j:Nat}{B:AB}{d:TD}(hn:AList Tryz.prog ops rest (([id],[])::acc) (S.eff dst ⟨.ag (zAD (B.F k) j d.size),[],[]⟩) Q)(hw:S.wants ops {dst,op:=.load t x,type:=ty,pos,after,guard}=some true:=by exact rfl)(hd:dOk S.n dst=true:=by exact rfl)(hx:S.opd x=some (.c (.pt id sz k j)):=by exact rfl)(hh:S.h id=some B:=by exact rfl)(hs:B.sz=sz:=by exact rfl)(ht:zD zGk t=some d:=by exact rfl)(hk:zCZ d.k=true:=by exact rfl)(hkn:k<B.n:=by exact oM)(hj:j+d.size≤B.sz:=by exact oM):
  AList Tryz.prog ops ({dst,op:=.load t x,type:=ty,pos,after,guard}::rest) acc S Q:=zKf zA hw hd hx hh hs ht hk hkn hj hn
theorem kI{t:TypeId}{x v:Operand}{id sz k j:Nat}{B:AB}{d:TD}{y:AV}{l:List CV}(hn:AList Tryz.prog ops rest (([id],[id])::acc) (S.eff none ⟨.tu [],[(id,some ⟨B.row,B.n,B.sz,B.ty,zAw B.F k j d.size l⟩)],[]⟩) Q)(hw:S.wants ops {dst:=none,op:=.store t x v,type:=ty,pos,after,guard}=some true:=by exact rfl)(hx:S.opd x=some (.c (.pt id sz k j)):=by exact rfl)(hv:S.opd v=some y:=by exact rfl)(hl:y.cells=some l:=by exact rfl)(hh:S.h id=some B:=by exact rfl)(hs:B.sz=sz:=by exact rfl)(ht:zD zGk t=some d:=by exact rfl)(hz:l.length=d.size:=by exact rfl)(hkn:k<B.n:=by exact oM)(hj:j+d.size≤B.sz:=by exact oM):
  AList Tryz.prog ops ({dst:=none,op:=.store t x v,type:=ty,pos,after,guard}::rest) acc S Q:=AList.store zA hw hx hv hl hh hs ht hz hkn hj hn
theorem lrw{P:Prop}(h:P:=by exact zAo rfl rfl (fun _ _ _ _=>⟨rfl,rfl⟩)):P:=h
theorem aR1{P:Prop}(h:P:=by exact ARets.one (x:=.c _) (ARes.tmp rfl rfl)):P:=h
theorem kT{P:Program}{Q:Exit→St→Prop}{S:St}{c:Operand}{b:Bool}{x y:Code}(h:AWp P x Q S)(hc:S.opd c=some (.c (.p (.bool b))):=by exact rfl)(hb:b=true:=by exact cnT):AWp P (.cond c x y) Q S:=zOv hc hb h
theorem kU{P:Program}{Q:Exit→St→Prop}{S:St}{c:Operand}{b:Bool}{x y:Code}(h:AWp P y Q S)(hc:S.opd c=some (.c (.p (.bool b))):=by exact rfl)(hb:b=false:=by exact cnF):AWp P (.cond c x y) Q S:=zOu hc hb h
theorem uA:type_of% @AWp.seq:= @AWp.seq
theorem uB:type_of% @zN2:= @zN2
theorem uC:type_of% @AWp.block:= @AWp.block
theorem uD:type_of% @zMu:= @zMu
theorem uE:type_of% @zMv:= @zMv
theorem uF:type_of% @zMt:= @zMt
theorem uG:type_of% @AWp.skip:= @AWp.skip
theorem uH:type_of% @AWp.exit:= @AWp.exit
theorem rG{P:Program}{Q:Exit→St→Prop}{S:St}(id:Nat){l:List Oper}(h:AList P l.toArray l [] S (fun _ S'=>Q .normal S')):AWp P (.region id l.toArray false) Q S:=AWp.region h
theorem hSm{S:St}{ren:List (Nat×Option Nat)}{id o sz:Nat}{ty:TypeId}{F:Nat→Nat→CV}{l:List CV}(hr:zD ren id=some (some o):=by exact rfl)(hh:S.h o=some ⟨false,1,sz,ty,F⟩:=by exact rfl)(hc:zAD (F 0) 0 sz=l:=by exact rfl)(hi:l.all zM=true:=by exact rfl):HeapOk S ren id ⟨false,1,sz,ty,lF l⟩:=HeapOk.same hr hh hc hi
end
structure vF(p:Prop):Prop where
 o:p
structure vG(l:List Nat):Prop where
 o:True
def vH(ops:Array Oper)(Q:Exit→St→Prop)(f:List (List Nat×List Nat))(S:St):Prop:=zFU ops f=true∧Q .normal S
theorem vC{P:Program}{Q:Exit→St→Prop}{S:St}{ids:List Nat}(r:vG ids){id:Nat}{l:List Oper}(h:AList P l.toArray l [] S (fun _ S'=>Q .normal S'))(hm:ids.elem id=true:=by exact rfl):AWp P (.region id l.toArray false) Q S:=AWp.region h
theorem vD{Q:Exit→St→Prop}{S:St}{ids:List Nat}(r:vG ids){id:Nat}{l:List Oper}(h:AList Tryz.prog l.toArray l [] S (vH l.toArray Q))(hm:ids.elem id=true:=by exact rfl):AWp Tryz.prog (.region id l.toArray true) Q S:=AWp.draw zK h
theorem vE{P:Program}{Q:Exit→St→Prop}{S:St}{ops:Array Oper}{acc:List (List Nat×List Nat)}(k:Q .normal S)(h:zFU ops acc.reverse=true:=by kernel_rfl):AList P ops [] acc S (vH ops Q):=AList.nil ⟨h,k⟩
theorem wA{P:Program}{ops:Array Oper}{rest:List Oper}{acc:List (List Nat×List Nat)}{S:St}{Q:List (List Nat×List Nat)→St→Prop}{dst:Option Tmp}{op:Op}{ty:TypeId}{pos:String}{after:Array Edge}{g:Nat×Bool}(h:AList P ops (⟨dst,op,ty,pos,after,some g⟩::rest) acc S Q):AList P ops (⟨dst,op,ty,pos,after,some g⟩::rest) acc S Q:=h
theorem wP{P:Program}{Q:Exit→St→Prop}{S:St}{id:Nat}{l:Array Oper}(h:AWp P (.region id l false) Q S):AWp P (.region id l false) Q S:=h
theorem wQ{P:Program}{Q:Exit→St→Prop}{S:St}{id:Nat}{l:Array Oper}(h:AWp P (.region id l true) Q S):AWp P (.region id l true) Q S:=h
theorem wR{P:Program}{Q:Exit→St→Prop}{S:St}{c:Operand}{x y:Code}(h:AWp P (.cond c x y) Q S):AWp P (.cond c x y) Q S:=h
theorem wV{P:Program}{ops:Array Oper}{acc:List (List Nat×List Nat)}{S:St}{Q:Exit→St→Prop}(h:AList P ops [] acc S (vH ops Q)):AList P ops [] acc S (vH ops Q):=h
theorem vI{P:Program}{ops:Array Oper}{l:List Oper}{acc:List (List Nat×List Nat)}{S:St}{Q:List (List Nat×List Nat)→St→Prop}(h:AList P ops l acc S Q):AList P ops l acc S Q:=h
theorem vJ{P:Program}{Q:Exit→St→Prop}{S:St}{c:Code}(h:AWp P c Q S):AWp P c Q S:=h
theorem vT{P:Program}{ops:Array Oper}{rest:List Oper}{acc:List (List Nat×List Nat)}{S:St}{Q:List (List Nat×List Nat)→St→Prop}{dst:Option Tmp}{op:Op}{ty:TypeId}{pos:String}{after:Array Edge}{g:Nat×Bool}
 (hk:AList P ops rest (([],[])::acc) (S.eff dst ⟨.tu [],[],[]⟩) Q) (hw:S.wants ops ⟨dst,op,ty,pos,after,some g⟩=some false:=by exact rfl) (hd:dOk S.n dst=true:=by exact rfl):AList P ops (⟨dst,op,ty,pos,after,some g⟩::rest) acc S Q:=AList.skip hw hd hk
theorem vU{o:BinOp}{i j:Int}(h:zBs o i j=true:=by unfold zBs;simp only[decide_eq_true_eq,Bool.not_eq_true',decide_eq_false_iff_not];first|done|assumption):zBs o i j=true:=h
theorem vV{o:BinOp}{i j:Int}(h:zBs o i j=false:=by unfold zBs;simp only[decide_eq_false_iff_not,Bool.not_eq_false',decide_eq_true_eq];first|done|assumption):zBs o i j=false:=h
theorem vW{o:BinOp}{i j:Int}(h:zBs o i j=true:=by exact cmT):zBs o i j=true:=h
theorem vX{o:BinOp}{i j:Int}(h:zBs o i j=false:=by exact cmF):zBs o i j=false:=h
theorem vY{P:Program}{ops:Array Oper}{rest:List Oper}{acc:List (List Nat×List Nat)}{S:St}{Q:List (List Nat×List Nat)→St→Prop}{dst:Option Tmp}{ty xt yt:TypeId}{pos:String}{after:Array Edge}{guard:Option (Nat×Bool)}{o:BinOp}{x y:Operand}{k:IntKind}{i j:Int}{b:Bool}
 (hn:AList P ops rest (([],[])::acc) (S.eff dst ⟨.c (.p (.bool b)),[],[]⟩) Q) (hw:S.wants ops ⟨dst,.binOp o xt x y yt,ty,pos,after,guard⟩=some true:=by exact rfl) (hd:dOk S.n dst=true:=by exact rfl) (ho:zG4 o=true:=by exact rfl) (hx:S.opd x=some (.c (.p (.int k i))):=by exact rfl) (hy:S.opd y=some (.c (.p (.int k j))):=by exact rfl)
 (hc:zBs o i j=b:=by first|exact vU|exact vV|exact vW|exact vX|exact rfl):AList P ops (⟨dst,.binOp o xt x y yt,ty,pos,after,guard⟩::rest) acc S Q:=zFh hw hd ho hx hy (hc▸hn)
theorem vK{P:Program}{ops:Array Oper}{rest:List Oper}{acc:List (List Nat×List Nat)}{S:St}{Q:List (List Nat×List Nat)→St→Prop}{dst:Option Tmp}{ty:TypeId}{pos:String}{after:Array Edge}{guard:Option (Nat×Bool)}{s:TypeId}{x:Operand}{f:Nat}(h:AList P ops (⟨dst,.fieldAddr s x f,ty,pos,after,guard⟩::rest) acc S Q):AList P ops (⟨dst,.fieldAddr s x f,ty,pos,after,guard⟩::rest) acc S Q:=h
theorem vL{P:Program}{ops:Array Oper}{rest:List Oper}{acc:List (List Nat×List Nat)}{S:St}{Q:List (List Nat×List Nat)→St→Prop}{dst:Option Tmp}{ty:TypeId}{pos:String}{after:Array Edge}{guard:Option (Nat×Bool)}{s:TypeId}{x:Operand}(h:AList P ops (⟨dst,.load s x,ty,pos,after,guard⟩::rest) acc S Q):AList P ops (⟨dst,.load s x,ty,pos,after,guard⟩::rest) acc S Q:=h
theorem vM{P:Program}{ops:Array Oper}{rest:List Oper}{acc:List (List Nat×List Nat)}{S:St}{Q:List (List Nat×List Nat)→St→Prop}{dst:Option Tmp}{ty:TypeId}{pos:String}{after:Array Edge}{guard:Option (Nat×Bool)}{o:BinOp}{s z:TypeId}{x y:Operand}(h:AList P ops (⟨dst,.binOp o s x y z,ty,pos,after,guard⟩::rest) acc S Q):AList P ops (⟨dst,.binOp o s x y z,ty,pos,after,guard⟩::rest) acc S Q:=h
theorem vN{P:Program}{ops:Array Oper}{rest:List Oper}{acc:List (List Nat×List Nat)}{S:St}{Q:List (List Nat×List Nat)→St→Prop}{dst:Option Tmp}{ty:TypeId}{pos:String}{after:Array Edge}{guard:Option (Nat×Bool)}{o:Builtin}{x:Array Operand}{y:Array TypeId}(h:AList P ops (⟨dst,.call ⟨.builtin o,x,y⟩,ty,pos,after,guard⟩::rest) acc S Q):AList P ops (⟨dst,.call ⟨.builtin o,x,y⟩,ty,pos,after,guard⟩::rest) acc S Q:=h
theorem vO{P:Program}{ops:Array Oper}{rest:List Oper}{acc:List (List Nat×List Nat)}{S:St}{Q:List (List Nat×List Nat)→St→Prop}{dst:Option Tmp}{ty:TypeId}{pos:String}{after:Array Edge}{guard:Option (Nat×Bool)}{s:TypeId}{x y:Operand}(h:AList P ops (⟨dst,.indexAddr s x y,ty,pos,after,guard⟩::rest) acc S Q):AList P ops (⟨dst,.indexAddr s x y,ty,pos,after,guard⟩::rest) acc S Q:=h
theorem vP{P:Program}{ops:Array Oper}{rest:List Oper}{acc:List (List Nat×List Nat)}{S:St}{Q:List (List Nat×List Nat)→St→Prop}{dst:Option Tmp}{ty:TypeId}{pos:String}{after:Array Edge}{guard:Option (Nat×Bool)}{x y z:Operand}(h:AList P ops (⟨dst,.pick x y z,ty,pos,after,guard⟩::rest) acc S Q):AList P ops (⟨dst,.pick x y z,ty,pos,after,guard⟩::rest) acc S Q:=h
theorem vQ{P:Program}{ops:Array Oper}{rest:List Oper}{acc:List (List Nat×List Nat)}{S:St}{Q:List (List Nat×List Nat)→St→Prop}{dst:Option Tmp}{ty:TypeId}{pos:String}{after:Array Edge}{guard:Option (Nat×Bool)}{o:UnOp}{s:TypeId}{x:Operand}(h:AList P ops (⟨dst,.unOp o s x,ty,pos,after,guard⟩::rest) acc S Q):AList P ops (⟨dst,.unOp o s x,ty,pos,after,guard⟩::rest) acc S Q:=h
theorem vR{P:Program}{ops:Array Oper}{rest:List Oper}{acc:List (List Nat×List Nat)}{S:St}{Q:List (List Nat×List Nat)→St→Prop}{dst:Option Tmp}{ty:TypeId}{pos:String}{after:Array Edge}{guard:Option (Nat×Bool)}{s:TypeId}{n:Nat}{x:Array (Nat×Operand)}(h:AList P ops (⟨dst,.buildSlice s n x,ty,pos,after,guard⟩::rest) acc S Q):AList P ops (⟨dst,.buildSlice s n x,ty,pos,after,guard⟩::rest) acc S Q:=h
theorem vS{P:Program}{ops:Array Oper}{rest:List Oper}{acc:List (List Nat×List Nat)}{S:St}{Q:List (List Nat×List Nat)→St→Prop}{dst:Option Tmp}{ty:TypeId}{pos:String}{after:Array Edge}{guard:Option (Nat×Bool)}{s:TypeId}{x:Array (Nat×Operand)}(h:AList P ops (⟨dst,.build s x,ty,pos,after,guard⟩::rest) acc S Q):AList P ops (⟨dst,.build s x,ty,pos,after,guard⟩::rest) acc S Q:=h
theorem wB{P:Program}{ops:Array Oper}{rest:List Oper}{acc:List (List Nat×List Nat)}{S:St}{Q:List (List Nat×List Nat)→St→Prop}{dst:Option Tmp}{ty:TypeId}{pos:String}{after:Array Edge}{guard:Option (Nat×Bool)}{x:Operand}(h:AList P ops (⟨dst,.move x,ty,pos,after,guard⟩::rest) acc S Q):AList P ops (⟨dst,.move x,ty,pos,after,guard⟩::rest) acc S Q:=h
theorem wE{P:Program}{ops:Array Oper}{rest:List Oper}{acc:List (List Nat×List Nat)}{S:St}{Q:List (List Nat×List Nat)→St→Prop}{dst:Option Tmp}{ty:TypeId}{pos:String}{after:Array Edge}{guard:Option (Nat×Bool)}{x:Operand}(h:AList P ops (⟨dst,.assign x,ty,pos,after,guard⟩::rest) acc S Q):AList P ops (⟨dst,.assign x,ty,pos,after,guard⟩::rest) acc S Q:=h
theorem wF{P:Program}{ops:Array Oper}{rest:List Oper}{acc:List (List Nat×List Nat)}{S:St}{Q:List (List Nat×List Nat)→St→Prop}{dst:Option Tmp}{ty:TypeId}{pos:String}{after:Array Edge}{guard:Option (Nat×Bool)}{s z:TypeId}{x y:Operand}(h:AList P ops (⟨dst,.binOp .add s x y z,ty,pos,after,guard⟩::rest) acc S Q):AList P ops (⟨dst,.binOp .add s x y z,ty,pos,after,guard⟩::rest) acc S Q:=h
theorem wG{P:Program}{ops:Array Oper}{rest:List Oper}{acc:List (List Nat×List Nat)}{S:St}{Q:List (List Nat×List Nat)→St→Prop}{dst:Option Tmp}{ty:TypeId}{pos:String}{after:Array Edge}{guard:Option (Nat×Bool)}{s z:TypeId}{x y:Operand}(h:AList P ops (⟨dst,.binOp .sub s x y z,ty,pos,after,guard⟩::rest) acc S Q):AList P ops (⟨dst,.binOp .sub s x y z,ty,pos,after,guard⟩::rest) acc S Q:=h
theorem wH{P:Program}{ops:Array Oper}{rest:List Oper}{acc:List (List Nat×List Nat)}{S:St}{Q:List (List Nat×List Nat)→St→Prop}{dst:Option Tmp}{ty:TypeId}{pos:String}{after:Array Edge}{guard:Option (Nat×Bool)}{s z:TypeId}{x y:Operand}(h:AList P ops (⟨dst,.binOp .mul s x y z,ty,pos,after,guard⟩::rest) acc S Q):AList P ops (⟨dst,.binOp .mul s x y z,ty,pos,after,guard⟩::rest) acc S Q:=h
theorem wI{P:Program}{ops:Array Oper}{rest:List Oper}{acc:List (List Nat×List Nat)}{S:St}{Q:List (List Nat×List Nat)→St→Prop}{dst:Option Tmp}{ty:TypeId}{pos:String}{after:Array Edge}{guard:Option (Nat×Bool)}{s z:TypeId}{x y:Operand}(h:AList P ops (⟨dst,.binOp .quo s x y z,ty,pos,after,guard⟩::rest) acc S Q):AList P ops (⟨dst,.binOp .quo s x y z,ty,pos,after,guard⟩::rest) acc S Q:=h
theorem wJ{P:Program}{ops:Array Oper}{rest:List Oper}{acc:List (List Nat×List Nat)}{S:St}{Q:List (List Nat×List Nat)→St→Prop}{dst:Option Tmp}{ty:TypeId}{pos:String}{after:Array Edge}{guard:Option (Nat×Bool)}{s z:TypeId}{x y:Operand}(h:AList P ops (⟨dst,.binOp .rem s x y z,ty,pos,after,guard⟩::rest) acc S Q):AList P ops (⟨dst,.binOp .rem s x y z,ty,pos,after,guard⟩::rest) acc S Q:=h
theorem wK{P:Program}{ops:Array Oper}{rest:List Oper}{acc:List (List Nat×List Nat)}{S:St}{Q:List (List Nat×List Nat)→St→Prop}{dst:Option Tmp}{ty:TypeId}{pos:String}{after:Array Edge}{guard:Option (Nat×Bool)}{s:TypeId}{x y:Operand}(h:AList P ops (⟨dst,.store s x y,ty,pos,after,guard⟩::rest) acc S Q):AList P ops (⟨dst,.store s x y,ty,pos,after,guard⟩::rest) acc S Q:=h
theorem wL{P:Program}{ops:Array Oper}{rest:List Oper}{acc:List (List Nat×List Nat)}{S:St}{Q:List (List Nat×List Nat)→St→Prop}{dst:Option Tmp}{ty:TypeId}{pos:String}{after:Array Edge}{guard:Option (Nat×Bool)}{s:TypeId}{x:Operand}(h:AList P ops (⟨dst,.box s x,ty,pos,after,guard⟩::rest) acc S Q):AList P ops (⟨dst,.box s x,ty,pos,after,guard⟩::rest) acc S Q:=h
theorem wM{P:Program}{ops:Array Oper}{rest:List Oper}{acc:List (List Nat×List Nat)}{S:St}{Q:List (List Nat×List Nat)→St→Prop}{dst:Option Tmp}{ty:TypeId}{pos:String}{after:Array Edge}{guard:Option (Nat×Bool)}{s:TypeId}(h:AList P ops (⟨dst,.alloc s,ty,pos,after,guard⟩::rest) acc S Q):AList P ops (⟨dst,.alloc s,ty,pos,after,guard⟩::rest) acc S Q:=h
theorem wN{P:Program}{ops:Array Oper}{rest:List Oper}{acc:List (List Nat×List Nat)}{S:St}{Q:List (List Nat×List Nat)→St→Prop}{dst:Option Tmp}{ty:TypeId}{pos:String}{after:Array Edge}{guard:Option (Nat×Bool)}{x:Operand}{i:Nat}(h:AList P ops (⟨dst,.extract x i,ty,pos,after,guard⟩::rest) acc S Q):AList P ops (⟨dst,.extract x i,ty,pos,after,guard⟩::rest) acc S Q:=h
theorem wO{P:Program}{ops:Array Oper}{rest:List Oper}{acc:List (List Nat×List Nat)}{S:St}{Q:List (List Nat×List Nat)→St→Prop}{dst:Option Tmp}{ty:TypeId}{pos:String}{after:Array Edge}{guard:Option (Nat×Bool)}{x:Operand}(h:AList P ops (⟨dst,.nilCheck x,ty,pos,after,guard⟩::rest) acc S Q):AList P ops (⟨dst,.nilCheck x,ty,pos,after,guard⟩::rest) acc S Q:=h
theorem vA{G H:Prop}(k:H)(f:vF H→G:=by intro h;(first|(refine wA ?_;refine vT ?_)|(refine wB ?_;refine kA ?_)|(refine wE ?_;refine kC ?_)|(refine vK ?_;first|refine kD ?_|refine qr7 (zJ8 zA) ?_)|(refine vL ?_;first|refine kE ?_|refine kF ?_|refine zHj (aV zA) ?_|refine zHj (aT zA) ?_)|(refine vM ?_;first|(refine wF ?_;refine zCy aL ?_)|(refine wG ?_;refine zCy AList.sub ?_)|(refine wH ?_;refine zCy AList.mul ?_)|(refine wI ?_;refine zDY AList.quo ?_)|(refine wJ ?_;refine zCy AList.rem ?_)|refine vY ?_|refine zHi zJ7 ?_|refine zHi zKj ?_)|(refine wK ?_;refine kI ?_)|(refine wL ?_;refine qr5 aQ ?_)|(refine vN ?_;first|refine qr5 (aO zA) ?_|refine qr7 (zKd zA) ?_|refine qr5 (zKc zA) ?_|refine qr4 zKh ?_|refine qr4 zKi ?_)|(refine wM ?_;refine qr5 (aM zA) ?_)|(refine wN ?_;refine qr4 aN ?_)|(refine vO ?_;first|refine zNd (aP zA) ?_|refine zH zA rfl rfl rfl rfl rfl rfl rfl rfl rfl rfl rfl oM ?_|refine zBI (aU zA) ?_)|(refine vP ?_;first|refine qr4 aS ?_|refine qr4 aR ?_|refine qr5 AList.pick ?_)|(refine vQ ?_;first|refine qr3 zKl ?_|refine zNc AList.neg ?_)|(refine wO ?_;refine zKk rfl rfl rfl rfl ?_)|(refine vR ?_;first|refine zF1 (zKe zA) ?_|refine qr7 (zJ6 zA) ?_)|(refine vS ?_;first|refine qr8 (aX zA) ?_|refine qr8 (zJ0 zA) ?_));exact h.1):G:=f ⟨k⟩
theorem vB(l:List Nat){G H:Prop}(k:H)(f:vG l→vF H→G:=by intro r h;(repeat1' (first|(refine vI ?_;first|(refine wV ?_;refine vE ?_)|refine aB ?_|(refine wA ?_;refine vT ?_)|(refine wB ?_;refine kA ?_)|(refine wE ?_;refine kC ?_)|(refine vK ?_;first|refine kD ?_|refine qr7 (zJ8 zA) ?_)|(refine vL ?_;first|refine kE ?_|refine kF ?_|refine zHj (aV zA) ?_|refine zHj (aT zA) ?_)|(refine vM ?_;first|(refine wF ?_;refine zCy aL ?_)|(refine wG ?_;refine zCy AList.sub ?_)|(refine wH ?_;refine zCy AList.mul ?_)|(refine wI ?_;refine zDY AList.quo ?_)|(refine wJ ?_;refine zCy AList.rem ?_)|refine vY ?_|refine zHi zJ7 ?_|refine zHi zKj ?_)|(refine wK ?_;refine kI ?_)|(refine wL ?_;refine qr5 aQ ?_)|(refine vN ?_;first|refine qr5 (aO zA) ?_|refine qr7 (zKd zA) ?_|refine qr5 (zKc zA) ?_|refine qr4 zKh ?_|refine qr4 zKi ?_)|(refine wM ?_;refine qr5 (aM zA) ?_)|(refine wN ?_;refine qr4 aN ?_)|(refine vO ?_;first|refine zNd (aP zA) ?_|refine zH zA rfl rfl rfl rfl rfl rfl rfl rfl rfl rfl rfl oM ?_|refine zBI (aU zA) ?_)|(refine vP ?_;first|refine qr4 aS ?_|refine qr4 aR ?_|refine qr5 AList.pick ?_)|(refine vQ ?_;first|refine qr3 zKl ?_|refine zNc AList.neg ?_)|(refine wO ?_;refine zKk rfl rfl rfl rfl ?_)|(refine vR ?_;first|refine zF1 (zKe zA) ?_|refine qr7 (zJ6 zA) ?_)|(refine vS ?_;first|refine qr8 (aX zA) ?_|refine qr8 (zJ0 zA) ?_))|(refine vJ ?_;first|refine uA ?_|(refine wP ?_;refine vC r ?_)|(refine wQ ?_;refine vD r ?_)|refine uC ?_|refine uG ?_|(refine wR ?_;first|refine kT ?_|refine kU ?_)|refine uH ?_|refine AWp.ret ?_|refine AWp.scope (fun _ _ h=>h) ?_|refine AWp.label ?_)|refine uB ?_|refine zSv ?_|refine zSw ?_|refine uD ?_|refine uE ?_|refine uF ?_|refine zQJ rfl ?_));exact h.1):G:=f ⟨trivial⟩ ⟨k⟩
theorem xA{G H:Prop}(k:H)(f:vF H→G:=by intro h;(first|refine zAT zA rfl rfl rfl rfl rfl rfl rfl rfl rfl rfl oM oM ?_|refine zBb zA rfl rfl rfl rfl rfl rfl rfl rfl rfl rfl oM oM ?_|refine zOm zA rfl rfl rfl rfl rfl rfl rfl rfl rfl oM oM ?_|refine zGq zA rfl rfl rfl rfl rfl rfl rfl rfl rfl rfl rfl oM oM ?_|refine zJY zA rfl rfl rfl rfl rfl rfl rfl rfl rfl rfl oM oM ?_);exact h.1):G:=f ⟨k⟩
theorem xB{A B G H:Prop}(e:A)(c:B)(k:H)(f:vF A→vF B→vF H→G:=by intro e c h;refine aH rfl rfl rfl rfl e.1 rfl (by kernel_rfl) (c.1) ?_;exact h.1):G:=f ⟨e⟩ ⟨c⟩ ⟨k⟩
theorem xC{α:Sort _}{a b:α}(h:a=b:=by kernel_rfl):a=b:=h
theorem xD{p:Prop}(h:p:=by omega):p:=h
theorem xE2{G H:Prop}(k:H)(f:vF H→G:=by intro h;(iterate 2 refine vA ?_);exact h.1):G:=f ⟨k⟩
theorem xE3{G H:Prop}(k:H)(f:vF H→G:=by intro h;(iterate 3 refine vA ?_);exact h.1):G:=f ⟨k⟩
theorem xE4{G H:Prop}(k:H)(f:vF H→G:=by intro h;(iterate 4 refine vA ?_);exact h.1):G:=f ⟨k⟩
theorem xE5{G H:Prop}(k:H)(f:vF H→G:=by intro h;(iterate 5 refine vA ?_);exact h.1):G:=f ⟨k⟩
theorem xE6{G H:Prop}(k:H)(f:vF H→G:=by intro h;(iterate 6 refine vA ?_);exact h.1):G:=f ⟨k⟩
theorem xE7{G H:Prop}(k:H)(f:vF H→G:=by intro h;(iterate 7 refine vA ?_);exact h.1):G:=f ⟨k⟩
theorem xE8{G H:Prop}(k:H)(f:vF H→G:=by intro h;(iterate 8 refine vA ?_);exact h.1):G:=f ⟨k⟩
theorem xE9{G H:Prop}(k:H)(f:vF H→G:=by intro h;(iterate 9 refine vA ?_);exact h.1):G:=f ⟨k⟩
theorem zB4{G H:Prop}(k:H)(f:vF H→G:=by intro h;(iterate 10 refine vA ?_);exact h.1):G:=f ⟨k⟩
theorem zCn{G H:Prop}(k:H)(f:vF H→G:=by intro h;(iterate 11 refine vA ?_);exact h.1):G:=f ⟨k⟩
theorem zHE{G H:Prop}(k:H)(f:vF H→G:=by intro h;(iterate 12 refine vA ?_);exact h.1):G:=f ⟨k⟩
theorem zS4{G H:Prop}(k:H)(f:vF H→G:=by intro h;(iterate 13 refine vA ?_);exact h.1):G:=f ⟨k⟩
theorem zFb{G H:Prop}(k:H)(f:vF H→G:=by intro h;(iterate 14 refine vA ?_);exact h.1):G:=f ⟨k⟩
theorem zS2{G H:Prop}(k:H)(f:vF H→G:=by intro h;(iterate 15 refine vA ?_);exact h.1):G:=f ⟨k⟩
theorem zJX{G H:Prop}(k:H)(f:vF H→G:=by intro h;(iterate 16 refine vA ?_);exact h.1):G:=f ⟨k⟩
end Go.Proofs.YtbffmfeldkjkcaaGreat
end
