/-
  A text of this claim. Conditions: none.
-/
import Derived.Test.YtmmjbpgdkokjgaaGreatDoorChecked
import Derived.Test.YtmmjbpgdkokjgaaGreatDoorQLPgE
import Derived.KernelRfl
import Derived.Test.YtmmjbpgdkokjgaaGreatDoorQLPgC
import Derived.WideLaws
import Derived.Shelf.LaysC
import Derived.Shelf.LaysM
import Derived.Shelf.Strings.BuilderX
import Derived.Test.YtmmjbpgdkokjgaaGreatDoorProg
import Derived.Shelf.Strconv.Itoa4
import Derived.Lib.AppendIntMem
import Derived.Test.YtmmjbpgdkokjgaaGreatDoorRows
import Derived.Test.YtmmjbpgdkokjgaaGreatDoorCards
import Derived.Test.YtmmjbpgdkokjgaaGreatDoorTie
import Derived.LaidMore
import Derived.Lib.LaidTab
import Derived.Stop.Joined
import Derived.Stop.LaidErr
import Derived.SevenTiedAt
set_option linter.unusedVariables false
set_option linter.unusedSimpArgs false
set_option maxRecDepth 100000
set_option maxHeartbeats 16000000
namespace Go.Proofs.YtmmjbpgdkokjgaaGreatDoor
open Go.RowKit
abbrev nF :D:=D.v .nilFunc
abbrev nI :D:=D.v .nilIface
abbrev nP :D:=D.v (.pointer none)
abbrev n0 :D:=D.v (.int .i64 0)
def tyTab :List (TypeId×TyI):=[
(1, ⟨.other,1,8,[nF],[]⟩),
(2, ⟨.int .i64,1,8,[n0],[]⟩),
(3, ⟨.int .i64,1,8,[n0],[]⟩),
(4, ⟨.bool,1,1,[D.v (.bool false)],[]⟩),
(5, ⟨.int .u8,1,1,[D.v (.int .u8 0)],[]⟩),
(9, ⟨.string,1,16,[D.v (.string ByteArray.empty)],[]⟩),
(12, ⟨.int .u64,1,8,[D.v (.int .u64 0)],[]⟩),
(13, ⟨.struct,2,24,[D.v (.string ByteArray.empty),D.v (.int .u64 0)],[(0,1,false),(1,1,false)]⟩),
(20, ⟨.other,1,16,[nI],[]⟩),
(21, ⟨.int .i32,1,4,[D.v (.int .i32 0)],[]⟩),
(22, ⟨.slice 5,1,24,[D.nl 1],[]⟩),
(23, ⟨.other,1,8,[nF],[]⟩),
(24, ⟨.slice 51,1,24,[D.nl 6],[]⟩),
(25, ⟨.other,1,8,[nF],[]⟩),
(26, ⟨.slice 59,1,24,[D.nl 6],[]⟩),
(27, ⟨.struct,3,40,[n0,n0,D.nl 6],[(0,1,false),(1,1,false),(2,1,false)]⟩),
(28, ⟨.struct,3,40,[n0,n0,D.nl 6],[(0,1,false),(1,1,false),(2,1,false)]⟩),
(29, ⟨.other,1,8,[nF],[]⟩),
(30, ⟨.other,1,8,[nF],[]⟩),
(31, ⟨.struct,2,16,[n0,n0],[(0,1,false),(1,1,false)]⟩),
(32, ⟨.struct,2,16,[n0,n0],[(0,1,false),(1,1,false)]⟩),
(33, ⟨.other,1,8,[nF],[]⟩),
(34, ⟨.other,1,8,[nF],[]⟩),
(35, ⟨.slice 9,1,24,[D.nl 1],[]⟩),
(36, ⟨.struct,2,32,[n0,D.nl 1],[(0,1,false),(1,1,false)]⟩),
(37, ⟨.struct,2,32,[n0,D.nl 1],[(0,1,false),(1,1,false)]⟩),
(38, ⟨.other,1,8,[nF],[]⟩),
(39, ⟨.struct,2,24,[n0,D.v (.string ByteArray.empty)],[(0,1,false),(1,1,false)]⟩),
(40, ⟨.struct,2,24,[n0,D.v (.string ByteArray.empty)],[(0,1,false),(1,1,false)]⟩),
(41, ⟨.other,1,8,[nF],[]⟩),
(42, ⟨.other,1,8,[nF],[]⟩),
(43, ⟨.other,1,8,[nP],[]⟩),
(44, ⟨.other,1,8,[nF],[]⟩),
(45, ⟨.other,1,8,[nP],[]⟩),
(46, ⟨.struct,2,48,[D.nl 6,D.nl 6],[(0,1,false),(1,1,false)]⟩),
(47, ⟨.struct,2,48,[D.nl 6,D.nl 6],[(0,1,false),(1,1,false)]⟩),
(48, ⟨.other,1,8,[nF],[]⟩),
(49, ⟨.other,1,8,[nF],[]⟩),
(50, ⟨.struct,6,56,[n0,n0,n0,n0,n0,D.v (.string ByteArray.empty)],[(0,1,false),(1,1,false),(2,1,false),(3,1,false),(4,1,false),(5,1,false)]⟩),
(51, ⟨.struct,6,56,[n0,n0,n0,n0,n0,D.v (.string ByteArray.empty)],[(0,1,false),(1,1,false),(2,1,false),(3,1,false),(4,1,false),(5,1,false)]⟩),
(52, ⟨.struct,2,48,[D.nl 6,D.nl 6],[(0,1,false),(1,1,false)]⟩),
(53, ⟨.struct,2,48,[D.nl 6,D.nl 6],[(0,1,false),(1,1,false)]⟩),
(54, ⟨.other,1,8,[nF],[]⟩),
(55, ⟨.other,1,8,[nP],[]⟩),
(56, ⟨.other,1,8,[nF],[]⟩),
(57, ⟨.slice 132,1,24,[D.nl 5],[]⟩),
(58, ⟨.struct,6,64,[n0,n0,n0,n0,n0,D.nl 5],[(0,1,false),(1,1,false),(2,1,false),(3,1,false),(4,1,false),(5,1,false)]⟩),
(59, ⟨.struct,6,64,[n0,n0,n0,n0,n0,D.nl 5],[(0,1,false),(1,1,false),(2,1,false),(3,1,false),(4,1,false),(5,1,false)]⟩),
(60, ⟨.other,1,8,[nF],[]⟩),
(61, ⟨.other,1,8,[nF],[]⟩),
(63, ⟨.other,1,8,[nF],[]⟩),
(64, ⟨.other,1,8,[nF],[]⟩),
(65, ⟨.other,1,8,[nF],[]⟩),
(66, ⟨.other,1,8,[nF],[]⟩),
(67, ⟨.other,1,8,[nP],[]⟩),
(68, ⟨.struct,2,32,[nP,D.nl 1],[(0,1,false),(1,1,false)]⟩),
(69, ⟨.struct,2,32,[nP,D.nl 1],[(0,1,false),(1,1,false)]⟩),
(70, ⟨.other,1,8,[nF],[]⟩),
(71, ⟨.other,1,8,[nF],[]⟩),
(72, ⟨.other,1,16,[nI],[]⟩),
(73, ⟨.other,1,16,[nI],[]⟩),
(75, ⟨.other,1,8,[nF],[]⟩),
(76, ⟨.other,1,8,[nF],[]⟩),
(77, ⟨.other,1,8,[nF],[]⟩),
(78, ⟨.slice 2,1,24,[D.nl 1],[]⟩),
(79, ⟨.other,1,8,[nF],[]⟩),
(80, ⟨.other,1,8,[nF],[]⟩),
(81, ⟨.other,1,8,[nF],[]⟩),
(82, ⟨.other,1,8,[nF],[]⟩),
(83, ⟨.other,1,8,[nF],[]⟩),
(84, ⟨.struct,2,32,[D.nl 1,n0],[(0,1,false),(1,1,false)]⟩),
(85, ⟨.struct,2,32,[D.nl 1,n0],[(0,1,false),(1,1,false)]⟩),
(86, ⟨.other,1,8,[nF],[]⟩),
(87, ⟨.other,1,8,[nF],[]⟩),
(88, ⟨.other,1,8,[nF],[]⟩),
(89, ⟨.other,1,8,[nF],[]⟩),
(90, ⟨.slice 92,1,24,[D.nl 5],[]⟩),
(91, ⟨.struct,5,80,[n0,n0,D.v (.string ByteArray.empty),D.nl 1,D.nl 5],[(0,1,false),(1,1,false),(2,1,false),(3,1,false),(4,1,false)]⟩),
(92, ⟨.struct,5,80,[n0,n0,D.v (.string ByteArray.empty),D.nl 1,D.nl 5],[(0,1,false),(1,1,false),(2,1,false),(3,1,false),(4,1,false)]⟩),
(93, ⟨.other,1,8,[nF],[]⟩),
(94, ⟨.other,1,8,[nF],[]⟩),
(95, ⟨.other,1,8,[nF],[]⟩),
(96, ⟨.other,1,8,[nF],[]⟩),
(97, ⟨.other,1,8,[nF],[]⟩),
(98, ⟨.other,1,8,[nF],[]⟩),
(99, ⟨.other,1,8,[nF],[]⟩),
(100, ⟨.other,1,8,[nF],[]⟩),
(101, ⟨.other,1,8,[nF],[]⟩),
(102, ⟨.other,1,8,[nF],[]⟩),
(103, ⟨.other,1,8,[nF],[]⟩),
(104, ⟨.other,1,8,[nF],[]⟩),
(105, ⟨.other,1,8,[nF],[]⟩),
(106, ⟨.other,1,8,[nF],[]⟩),
(107, ⟨.other,1,8,[nF],[]⟩),
(109, ⟨.other,1,8,[nF],[]⟩),
(110, ⟨.other,1,8,[nF],[]⟩),
(111, ⟨.other,1,8,[nF],[]⟩),
(112, ⟨.other,1,8,[nF],[]⟩),
(113, ⟨.other,1,8,[nF],[]⟩),
(114, ⟨.other,1,8,[nF],[]⟩),
(115, ⟨.other,1,8,[nF],[]⟩),
(116, ⟨.other,1,8,[nF],[]⟩),
(117, ⟨.other,1,8,[nF],[]⟩),
(118, ⟨.other,1,8,[nF],[]⟩),
(119, ⟨.other,1,8,[nF],[]⟩),
(120, ⟨.other,1,8,[nF],[]⟩),
(121, ⟨.other,1,8,[nF],[]⟩),
(122, ⟨.other,1,8,[nF],[]⟩),
(123, ⟨.int .u64,1,8,[D.v (.int .u64 0)],[]⟩),
(124, ⟨.other,1,8,[nF],[]⟩),
(125, ⟨.other,1,8,[nF],[]⟩),
(126, ⟨.other,1,8,[nP],[]⟩),
(127, ⟨.other,1,8,[nF],[]⟩),
(128, ⟨.other,1,8,[nF],[]⟩),
(129, ⟨.other,1,8,[nF],[]⟩),
(130, ⟨.other,1,8,[nF],[]⟩),
(131, ⟨.struct,5,56,[n0,n0,D.v (.string ByteArray.empty),D.v (.string ByteArray.empty),n0],[(0,1,false),(1,1,false),(2,1,false),(3,1,false),(4,1,false)]⟩),
(132, ⟨.struct,5,56,[n0,n0,D.v (.string ByteArray.empty),D.v (.string ByteArray.empty),n0],[(0,1,false),(1,1,false),(2,1,false),(3,1,false),(4,1,false)]⟩),
(133, ⟨.other,1,8,[nF],[]⟩),
(134, ⟨.slice 57,1,24,[D.nl 1],[]⟩),
(135, ⟨.other,1,8,[nF],[]⟩),
(136, ⟨.other,1,8,[nF],[]⟩),
(137, ⟨.slice 291,1,24,[D.nl 4],[]⟩),
(138, ⟨.struct,9,104,[D.nl 4,n0,D.nl 6]++List.replicate 6 (n0),[(0,1,false),(1,1,false),(2,1,false),(3,1,false),(4,1,false),(5,1,false),(6,1,false),(7,1,false),(8,1,false)]⟩),
(139, ⟨.struct,9,104,[D.nl 4,n0,D.nl 6]++List.replicate 6 (n0),[(0,1,false),(1,1,false),(2,1,false),(3,1,false),(4,1,false),(5,1,false),(6,1,false),(7,1,false),(8,1,false)]⟩),
(140, ⟨.other,1,8,[nF],[]⟩),
(141, ⟨.other,1,8,[nP],[]⟩),
(142, ⟨.slice 143,1,24,[D.nl 1],[]⟩),
(143, ⟨.other,1,8,[nP],[]⟩),
(144, ⟨.other,1,8,[nF],[]⟩),
(145, ⟨.other,1,8,[nF],[]⟩),
(146, ⟨.other,1,8,[nF],[]⟩),
(147, ⟨.other,1,8,[D.v (.map none)],[]⟩),
(148, ⟨.other,1,8,[nF],[]⟩),
(149, ⟨.other,1,8,[D.v (.map none)],[]⟩),
(150, ⟨.other,1,8,[nF],[]⟩),
(151, ⟨.other,1,8,[nF],[]⟩),
(152, ⟨.other,1,8,[nF],[]⟩),
(153, ⟨.other,1,8,[nF],[]⟩),
(154, ⟨.other,1,8,[nF],[]⟩),
(155, ⟨.other,1,8,[nF],[]⟩),
(156, ⟨.other,1,8,[nF],[]⟩),
(157, ⟨.other,1,8,[nF],[]⟩),
(158, ⟨.other,1,8,[nF],[]⟩),
(159, ⟨.other,1,8,[nF],[]⟩),
(160, ⟨.other,1,8,[nF],[]⟩),
(162, ⟨.other,1,8,[nF],[]⟩),
(163, ⟨.other,1,8,[nF],[]⟩),
(164, ⟨.other,1,8,[nF],[]⟩),
(165, ⟨.other,1,8,[nF],[]⟩),
(166, ⟨.int .i64,1,8,[n0],[]⟩),
(168, ⟨.other,1,8,[nF],[]⟩),
(169, ⟨.other,1,8,[nF],[]⟩),
(170, ⟨.other,1,8,[nF],[]⟩),
(171, ⟨.other,1,8,[nF],[]⟩),
(173, ⟨.other,1,8,[nF],[]⟩),
(174, ⟨.other,1,8,[nF],[]⟩),
(175, ⟨.int .u32,1,4,[D.v (.int .u32 0)],[]⟩),
(176, ⟨.other,1,8,[nF],[]⟩),
(177, ⟨.int .u64,1,8,[D.v (.int .u64 0)],[]⟩),
(181, ⟨.other,1,8,[nF],[]⟩),
(182, ⟨.other,1,8,[nF],[]⟩),
(183, ⟨.other,1,8,[nF],[]⟩),
(184, ⟨.other,1,8,[nF],[]⟩),
(185, ⟨.other,1,8,[nF],[]⟩),
(186, ⟨.other,1,8,[nF],[]⟩),
(187, ⟨.other,1,8,[nF],[]⟩),
(188, ⟨.other,1,8,[nF],[]⟩),
(189, ⟨.int .u64,1,8,[D.v (.int .u64 0)],[]⟩),
(190, ⟨.other,1,8,[nF],[]⟩),
(191, ⟨.other,1,8,[nF],[]⟩),
(192, ⟨.other,1,8,[nF],[]⟩),
(193, ⟨.other,1,8,[nP],[]⟩),
(194, ⟨.other,1,8,[nF],[]⟩),
(195, ⟨.other,1,8,[nF],[]⟩),
(197, ⟨.other,1,8,[nF],[]⟩),
(199, ⟨.other,1,8,[nF],[]⟩),
(200, ⟨.other,1,8,[nP],[]⟩),
(201, ⟨.other,1,8,[nF],[]⟩),
(202, ⟨.other,1,8,[nF],[]⟩),
(204, ⟨.other,1,8,[nF],[]⟩),
(205, ⟨.other,1,8,[nF],[]⟩),
(206, ⟨.other,1,8,[nF],[]⟩),
(207, ⟨.other,1,8,[nP],[]⟩),
(208, ⟨.other,1,8,[nF],[]⟩),
(209, ⟨.other,1,8,[nF],[]⟩),
(210, ⟨.other,1,8,[nF],[]⟩),
(218, ⟨.struct,2,8,[D.v (.int .i32 0),D.v (.int .u32 0)],[(0,1,false),(1,1,false)]⟩),
(219, ⟨.struct,2,8,[D.v (.int .i32 0),D.v (.int .u32 0)],[(0,1,false),(1,1,false)]⟩),
(224, ⟨.other,1,16,[nI],[]⟩),
(225, ⟨.other,1,16,[nI],[]⟩),
(226, ⟨.struct,5,56,[D.v (.int .u32 0),D.v (.int .i32 0),D.v (.int .u32 0),nI,D.nl 1],[(0,3,true),(3,1,false),(4,1,false)]⟩),
(227, ⟨.struct,5,56,[D.v (.int .u32 0),D.v (.int .i32 0),D.v (.int .u32 0),nI,D.nl 1],[(0,3,true),(3,1,false),(4,1,false)]⟩),
(228, ⟨.other,1,8,[nF],[]⟩),
(229, ⟨.other,1,8,[nF],[]⟩),
(230, ⟨.other,1,8,[nF],[]⟩),
(231, ⟨.other,1,8,[nP],[]⟩),
(232, ⟨.other,1,8,[nF],[]⟩),
(235, ⟨.other,1,8,[nP],[]⟩),
(236, ⟨.other,1,8,[nF],[]⟩),
(237, ⟨.other,1,8,[nP],[]⟩),
(238, ⟨.other,1,8,[nF],[]⟩),
(239, ⟨.other,1,8,[nP],[]⟩),
(240, ⟨.other,1,8,[nF],[]⟩),
(241, ⟨.other,1,8,[nP],[]⟩),
(242, ⟨.other,1,8,[nF],[]⟩),
(245, ⟨.other,1,8,[nP],[]⟩),
(247, ⟨.struct,257,6168,List.replicate 257 (D.nl 1),[(0,256,true),(256,1,false)]⟩),
(248, ⟨.struct,257,6168,List.replicate 257 (D.nl 1),[(0,256,true),(256,1,false)]⟩),
(249, ⟨.other,1,8,[nP],[]⟩),
(250, ⟨.other,1,8,[nP],[]⟩),
(251, ⟨.other,1,8,[nF],[]⟩),
(252, ⟨.other,1,8,[nF],[]⟩),
(253, ⟨.other,1,8,[nP],[]⟩),
(254, ⟨.other,1,8,[nF],[]⟩),
(255, ⟨.struct,2,24,[nP,D.v (.string ByteArray.empty)],[(0,1,false),(1,1,false)]⟩),
(256, ⟨.struct,2,24,[nP,D.v (.string ByteArray.empty)],[(0,1,false),(1,1,false)]⟩),
(257, ⟨.other,1,8,[nP],[]⟩),
(258, ⟨.slice 257,1,24,[D.nl 1],[]⟩),
(259, ⟨.struct,5,72,[D.v (.string ByteArray.empty),n0,D.v (.string ByteArray.empty),nP,D.nl 1],[(0,1,false),(1,1,false),(2,1,false),(3,1,false),(4,1,false)]⟩),
(260, ⟨.struct,5,72,[D.v (.string ByteArray.empty),n0,D.v (.string ByteArray.empty),nP,D.nl 1],[(0,1,false),(1,1,false),(2,1,false),(3,1,false),(4,1,false)]⟩),
(261, ⟨.struct,262,336,[D.v (.string ByteArray.empty),n0,D.v (.string ByteArray.empty),nP,D.nl 1,n0]++List.replicate 256 (D.v (.int .u8 0)),[(0,5,true),(5,1,false),(6,256,true)]⟩),
(262, ⟨.struct,262,336,[D.v (.string ByteArray.empty),n0,D.v (.string ByteArray.empty),nP,D.nl 1,n0]++List.replicate 256 (D.v (.int .u8 0)),[(0,5,true),(5,1,false),(6,256,true)]⟩),
(263, ⟨.other,1,8,[nF],[]⟩),
(264, ⟨.other,1,8,[nP],[]⟩),
(265, ⟨.other,1,8,[nF],[]⟩),
(266, ⟨.other,1,8,[nP],[]⟩),
(268, ⟨.other,1,8,[nF],[]⟩),
(269, ⟨.other,1,8,[nF],[]⟩),
(270, ⟨.slice 3,1,24,[D.nl 1],[]⟩),
(272, ⟨.struct,258,2088,[D.v (.string ByteArray.empty)]++List.replicate 256 (n0)++[D.nl 1],[(0,1,false),(1,256,true),(257,1,false)]⟩),
(273, ⟨.struct,258,2088,[D.v (.string ByteArray.empty)]++List.replicate 256 (n0)++[D.nl 1],[(0,1,false),(1,256,true),(257,1,false)]⟩),
(274, ⟨.other,1,8,[nF],[]⟩),
(275, ⟨.other,1,8,[nF],[]⟩),
(276, ⟨.other,1,8,[nF],[]⟩),
(282, ⟨.other,1,8,[nF],[]⟩),
(290, ⟨.struct,4,40,[n0,n0,n0,D.v (.string ByteArray.empty)],[(0,1,false),(1,1,false),(2,1,false),(3,1,false)]⟩),
(291, ⟨.struct,4,40,[n0,n0,n0,D.v (.string ByteArray.empty)],[(0,1,false),(1,1,false),(2,1,false),(3,1,false)]⟩),
(292, ⟨.other,1,8,[nF],[]⟩),
(293, ⟨.other,1,8,[nF],[]⟩),
(294, ⟨.slice 5,1,24,[D.nl 1],[]⟩),
(295, ⟨.other,1,8,[nP],[]⟩),
(296, ⟨.other,1,16,[nI],[]⟩),
(297, ⟨.other,1,16,[nI],[]⟩),
(298, ⟨.other,1,16,[nI],[]⟩),
(299, ⟨.other,1,16,[nI],[]⟩),
(300, ⟨.other,1,8,[nF],[]⟩),
(302, ⟨.other,1,8,[nF],[]⟩),
(304, ⟨.struct,1,16,[nI],[(0,1,false)]⟩),
(305, ⟨.struct,1,16,[nI],[(0,1,false)]⟩),
(306, ⟨.other,1,8,[nF],[]⟩),
(307, ⟨.other,1,8,[nF],[]⟩),
(309, ⟨.other,1,8,[nF],[]⟩)]
theorem tyTab_ok :tyTab.all (fun p=>tyCheck Tryz.prog p.1 p.2)=true:=by kernel_rfl
noncomputable def env :Env:=⟨Tryz.prog,look tyTab,look_ok tyTab tyTab_ok⟩
structure Hide (p:Prop):Prop where
 out:p
theorem lE {N:Nm}{S S':St}(h:St.le N S S':=by(refine le_ofL rfl ?_ ?_<;>(repeat(first|exact trivial|refine⟨⟨rfl,rfl⟩,?_⟩|refine⟨rfl,.inl rfl,?_⟩|refine⟨rfl,.inr rfl,?_⟩)))):St.le N S S':=h
theorem rO {p:Prop}(h:p:=by first|trivial|exact resOK_of (E:=env) rfl):p:=h
theorem Z1 {G g:Prop}(k:g)(h:Hide g→G:=by first|(intro x;(first|refine W.seq ?_|refine W.rg ?_|refine W.dra' ?_|refine W.block ?_|refine W.skip ?_|refine W.exit ?_|refine W.cond_true' ?_|refine W.cond_false' ?_|refine WG.nil ?_|refine WG.run' (E:=env) ?_|refine WG.gt' ?_|refine WG.gf' ?_|refine WG.ixm' (E:=env) ?_|refine WG.ixo' (E:=env) ?_|refine WG.legm' (E:=env) ?_|refine WG.slS' (E:=env) ?_|refine WG.slD' (E:=env) ?_|refine WG.ap' (E:=env) ?_|refine WD.nil ?_|refine WD.bs' (E:=env) ?_|refine WD.s' (E:=env) (t:=.d _) ?_|refine WD.p' ?_|refine WD.px' ?_|refine WD.s' (E:=env) (t:=.ea _ _) ?_|refine WD.s' (E:=env) (t:=.lp _ _) ?_|refine WD.s' (E:=env) (t:=.og _ _) ?_|refine WD.s' (E:=env) (t:=.agg _) ?_|refine WD.s' (E:=env) (t:=.tup _) ?_|refine WD.s' (E:=env) (t:=.clo _ _) ?_|refine WD.ixm' (E:=env) ?_|refine WD.ixo' (E:=env) ?_|refine WD.legm' (E:=env) ?_|refine WD.slS' (E:=env) ?_|refine WD.slD' (E:=env) ?_|fail);exact x.out)|fail):G:=h ⟨k⟩
theorem Z2 {G g:Prop}(k:g)(h:Hide g→G:=by first|(intro x;(first|refine WE.nil ?_|refine WE.s' (E:=env) (t:=.d _) ?_|refine WE.p' ?_|refine WE.px' ?_|refine WE.s' (E:=env) (t:=.lp _ _) ?_|refine WE.s' (E:=env) (t:=.og _ _) ?_|refine WE.s' (E:=env) (t:=.ea _ _) ?_|refine WE.s' (E:=env) (t:=.agg _) ?_|refine WE.s' (E:=env) (t:=.tup _) ?_|refine WE.ixm' (E:=env) ?_|refine WE.ixo' (E:=env) ?_|refine WE.leg' (E:=env) ?_|refine WE.slS' (E:=env) ?_|refine WE.slD' (E:=env) ?_|refine WE.ap' (E:=env) ?_|refine WE.st' (E:=env) ?_|refine WE.seg' (E:=env) ?_|refine WE.bs' (E:=env) ?_|fail);exact x.out)|fail):G:=h ⟨k⟩
theorem Z3 {G g:Prop}(k:g)(h:Hide g→G:=by first|(intro x;(first|refine W.seq ?_|refine W.rg ?_|refine W.cond_true' ?_|refine W.cond_false' ?_|refine WG.nil ?_|refine WG.run' (E:=env) ?_|refine W.block ?_|refine W.skip ?_|refine W.exit ?_|fail);exact x.out)|fail):G:=h ⟨k⟩
theorem SP {G p q g1 g2:Prop}(k1:p→g1)(k2:q→g2)(h:Hide (p→g1)→Hide (q→g2)→G:=by first|(intro x y;(first|refine WG.sp' (fun h=>?_) fun h=>?_|refine W.cond' (fun h=>?_) fun h=>?_|refine WD.sp' (fun h=>?_) fun h=>?_|fail);(first|(simp only[atS,List.length_map,beq_self_eq_true] at h;exact x.out h)|exact x.out h);(first|(simp only[atS,List.length_map,beq_self_eq_true] at h;exact y.out h)|exact y.out h))|fail):G:=h ⟨k1⟩ ⟨k2⟩
structure Cell where
 kind:Int
 num:Int
 text:ByteArray
 key:ByteArray
 n:Int
 deriving Inhabited,DecidableEq
def Cell.row (c:Cell):List D:=[.v (.int .i64 c.kind),.v (.int .i64 c.num),.v (.string c.text),.v (.string c.key),.v (.int .i64 c.n)]
abbrev cellsD (cs:List Cell):D:=.sl 5 (cs.map Cell.row)
abbrev dI (n:Int):D:=.v (.int .i64 n)
abbrev dB (b:Bool):D:=.v (.bool b)
abbrev dS (s:ByteArray):D:=.v (.string s)
theorem map_row {α:Type} [Inhabited α](f:α→List D)(xs:List α)(i:Int)(h:0≤i∧i<xs.length):(xs.map f)[i.toNat]? =some (f (xs.getD i.toNat default)):=by
 have:i.toNat<xs.length:=by omega
 simp[this]
theorem map_rowN {α:Type} [Inhabited α](f:α→List D)(xs:List α)(i:Nat)(h:i<xs.length):(xs.map f)[i]? =some (f (xs.getD i default)):=by
 simp[h]
abbrev noS :ByteArray:=⟨#[]⟩
def okByte (b:Int):Bool:=decide (32≤b)&&decide (b≤126)
def okUpto (s:ByteArray):Nat→Bool
 |0=>true
 |k+1=>okUpto s k&&okByte (byteAt s k)
def okText (s:ByteArray):Bool:=okUpto s s.size&&decide (s.size≤60)
theorem okUpto_false {s:ByteArray}{k:Nat}(h:okByte (byteAt s k)=false): ∀n,k<n→okUpto s n=false
 |0,hn=>by omega
 |n+1,hn=>by
  unfold okUpto
  by_cases e:k=n
  ·subst e;simp[h]
  ·simp[okUpto_false h n (by omega)]
def holdsK (k:Int):Bool:=decide (k=5)||decide (k=6)
def cellCode (c:Cell):Int:=
 if !(decide (0≤c.kind)&&decide (c.kind≤6)) then 6
 else if(!decide (c.num=0)&& !decide (c.kind=3))||(!decide (c.text=noS)&& !decide (c.kind=4))||(!decide (c.n=0)&& !holdsK c.kind) then 1
 else if !(decide (-1000000000000000≤c.num)&&decide (c.num≤1000000000000000))|| !(decide (0≤c.n)&&decide (c.n≤200)) then 3
 else if !okText c.text|| !okText c.key then 5
 else 0
theorem toNat_cc (a b:Nat):((a:Int)+(b:Int)).toNat=a+b:=by omega
theorem toNat_c1 (a:Nat):((a:Int)+1).toNat=a+1:=by omega
theorem toNat_cm1 (a:Nat):((a:Int) - 1).toNat=a - 1:=by omega
theorem toNat_cm (a b:Nat):((a:Int) - (b:Int)).toNat=a - b:=by omega
theorem take_step {α:Type} [Inhabited α]{l:List α}{k:Nat}(h:k<l.length):l.take (k+1)=l.take k++[l.getD k default]:=by
 rw[List.take_add_one,List.getElem?_eq_getElem h];simp[h]
theorem drop_step {α:Type} [Inhabited α]{l:List α}{k:Nat}(h:k<l.length):l.drop k=l.getD k default::l.drop (k+1):=by
 rw[List.drop_eq_getElem_cons h];simp[h]
theorem getD_mem' {α:Type} [Inhabited α]{l:List α}{k:Nat}(h:k<l.length):l.getD k default∈l:=by simp[h]
section
open Go.RowKit Go.ChangeShapes Go.WideShapes
def tbX (b:Nat)(us:List Value)(q:TypeId×(Nat×Nat)):ObX where
 ok _ h F v:=(∀c,F c↔c=b)∧h b=some (.cells us.toArray q.1 q.2)∧v.oneCell'=true
 mono _ hF h:=⟨h.1,by rw[hF b ((h.1 b).2 rfl)];exact h.2.1,h.2.2⟩
 one h:=h.2.2
section
variable {P:Program}{f:FuncId}{args:List D}{t:T}{b:Nat}{us:List Value}{q:TypeId×(Nat×Nat)}
theorem FunQ.ofRawT (he: ∀(vals:Array Value) (w:World),(callFunc f vals).run P w=.ok (.enter f vals) w)
 (h: ∀(w:World) (σ0:Sto) (vals:List Value),(∀b o u,σ0 b o=some u→w.cell? ⟨b,o,none⟩=some u)→w.heap[b]? =some (.cells us.toArray q.1 q.2)→vals.length=args.length→(∀(i:Nat) (x:D) (u:Value),args[i]? =some x→vals[i]? =some u→RD σ0 x u)→
   Calls P f vals.toArray w fun e w'=> ∃v,e=.returned v∧Below w.heap.size w w'∧ ∀g,RT g t v):FunQ P f (args.map .d) [.x (tbX b us q) 0] (just t [.x (tbX b us q) 0]):=by
 refine⟨he,fun w g vals hI hl hr=>?_⟩
 have ho:=hI.obs 0 _ rfl
 obtain⟨ho1,⟨ho2,ho3,ho5⟩,ho4⟩:=ho
 refine(h w g.σ vals hI.con ho3 (by simpa using hl) fun i x u hx hu=>(hr i (.d x) u (by simp[hx]) hu).inv_d).mono fun e w' ⟨v,h1,h2,h3⟩=>?_
 have hc: ∀b o u,g.σ b o=some u→w'.cell? ⟨b,o,none⟩=some u:=fun b o u hu=>by
  rw[World.cell?_of_block (w:=w) (w':=w') (h2.block b (World.block_lt_of_cell? w ⟨b,o,none⟩ (hI.con b o u hu)))]
  exact hI.con b o u hu
 refine⟨v,t,[.x (tbX b us q) 0],g,h1,⟨rfl,rfl⟩,⟨hI.below.trans h2,hI.old,hc,fun k o hk=>?_,hI.lim,hI.dis,hI.ext⟩,h3 g⟩
 match k with
 |0=>
  simp at hk
  subst hk
  refine⟨ho1,⟨ho2,?_,ho5⟩,fun c hc=>?_⟩
  ·obtain⟨_,q2,_⟩:=ho4 b ((ho2 b).2 rfl)
   show w'.heap[b]? =_
   rw[h2.block b q2]
   exact ho3
  ·obtain⟨q1,q2,q3⟩:=ho4 c hc
   exact⟨q1,Nat.lt_of_lt_of_le q2 h2.size,q3⟩
 |k+1=>simp at hk
theorem FunQ.rawT (h:FunQ P f (args.map .d) [.x (tbX b us q) 0] (just t [.x (tbX b us q) 0]))(w:World)(σ0:Sto)(vals:List Value)(hσ: ∀b o u,σ0 b o=some u→w.cell? ⟨b,o,none⟩=some u)
 (hb:w.heap[b]? =some (.cells us.toArray q.1 q.2)) (hσb: ∀o,σ0 b o=none) (hl:vals.length=args.length)
 (hr: ∀(i:Nat) (x:D) (u:Value),args[i]? =some x→vals[i]? =some u→RD σ0 x u):
 Calls P f vals.toArray w fun e w'=> ∃v g,e=.returned v∧Below w.heap.size w w'∧(∀b o u,g.σ b o=some u→w'.cell? ⟨b,o,none⟩=some u)∧RT g t v:=by
 have hlt:b<w.heap.size:=by
  rcases Nat.lt_or_ge b w.heap.size with h|h
  ·exact h
  ·rw[Array.getElem?_eq_none h] at hb;cases hb
 have hI:Inv w (baseOf [.x (tbX b us q) 0] ⟨σ0,fun _ _=>.bool true,fun k=>if k=0 then 1 else 0,fun _ c=>c=b⟩) [.x (tbX b us q) 0] w ⟨σ0,fun _ _=>.bool true,fun k=>if k=0 then 1 else 0,fun _ c=>c=b⟩:=by
  refine⟨.refl _ _,fun _ _ _ _=>rfl,hσ,fun k o h=>?_,fun k hk=>?_,fun k k' o o' b _ h h' hb=>?_,fun k _=>.inr rfl⟩
  ·match k with
   |0=>
    simp at h
    subst h
    exact⟨rfl,⟨fun c=>Iff.rfl,hb,rfl⟩,fun c (hc:c=b)=>⟨.inr ⟨0,_,rfl,hc⟩,by subst hc;exact hlt,by subst hc;exact hσb⟩⟩
   |k+1=>simp at h
  ·simp only[List.length_singleton] at hk
   show(if k=0 then 1 else 0)=0
   rw[if_neg (by omega)]
  ·match k,k' with
   |0,0=>exact absurd rfl ‹_›
   |k+1,_=>simp at h
   |0,k'+1=>simp at h'
 refine(h.calls w _ vals hI (by simpa using hl) fun i x u hx hu=>?_).mono fun e w' ⟨v,t',ob',g',he,⟨h1,h2⟩,J,hv⟩=>?_
 ·simp only[List.getElem?_map,Option.map_eq_some_iff] at hx
  obtain⟨y,hy,rfl⟩:=hx
  exact .d _ _ (hr i y u hy hu)
 ·subst h1
  subst h2
  obtain⟨_,⟨_,jb,_⟩,_⟩:=J.obs 0 _ rfl
  refine⟨v,g',he,⟨J.below.os,J.below.tape,J.below.output,J.below.size,fun c hc=>?_⟩,J.con,hv⟩
  by_cases e:c=b
  ·subst e
   exact jb.trans hb.symm
  ·refine J.below.block c hc fun⟨k,o,h,h'⟩=>?_
   match k with
   |0=>
    simp at h
    subst h
    exact e h'
   |k+1=>simp at h
end
inductive NoU :D→Prop
 |v (x:Value) (h: ∀n,x≠ .int .u64 n):NoU (.v x)
 |nl (z:Nat):NoU (.nl z)
 |sl (z:Nat) (rows:List (List D)) (h: ∀r∈rows,∀x∈r,NoU x):NoU (.sl z rows)
 |agg (cs:List D) (h: ∀x∈cs,NoU x):NoU (.agg cs)
def filt (σ:Sto):Sto:=fun b o=>match σ b o with
 |some (.int .u64 _)=>none
 |c=>c
theorem filt_some {σ:Sto}{b o:Nat}{u:Value}(h:σ b o=some u)(hu: ∀n,u≠ .int .u64 n):filt σ b o=some u:=by
 unfold filt
 rw[h]
 split
 ·rename_i n e
  exact absurd (Option.some.inj e) (hu n)
 ·rfl
theorem filt_le {σ:Sto}{b o:Nat}{u:Value}(h:filt σ b o=some u):σ b o=some u:=by
 unfold filt at h
 split at h
 ·cases h
 ·exact h
theorem RD.nou {σ:Sto}{d:D}{u:Value}(h:RD σ d u)(hd:NoU d): ∀n,u≠ .int .u64 n:=by
 cases h with
 |v x=>cases hd with|v _ h=>exact h
 |nl z=>exact fun n h=>nomatch h
 |nil z A=>exact fun n h=>nomatch h
 |sl=>exact fun n h=>nomatch h
 |agg=>exact fun n h=>nomatch h
theorem RD.filt {σ:Sto}{d:D}{u:Value}(h:RD σ d u):NoU d→RD (filt σ) d u:=by
 induction h with
 |v x=>exact fun _=>.v x
 |nl z=>exact fun _=>.nl z
 |nil z A=>exact fun _=>.nil z A
 |sl z rows b off cap U hcap hm hz hc hr ih=>
  intro hd
  cases hd with
  |sl _ _ hd=>
   refine .sl z rows b off cap U hcap hm hz (fun i j hi hj=>⟨filt_some (hc i j hi hj).1 ?_,(hc i j hi hj).2⟩) fun i j r x h1 h2=>ih i j r x h1 h2 (hd r (List.mem_of_getElem? h1) x (List.mem_of_getElem? h2))
   have h1:rows[i]? =some rows[i]:=List.getElem?_eq_getElem hi
   have hjl:j<rows[i].length:=by rw[hz _ (List.getElem_mem hi)];exact hj
   have h2:rows[i][j]? =some rows[i][j]:=List.getElem?_eq_getElem hjl
   exact(hr i j _ _ h1 h2).nou (hd _ (List.getElem_mem hi) _ (List.getElem_mem hjl))
 |agg cs vs hl h ih=>
  intro hd
  cases hd with
  |agg _ hd=>exact .agg cs vs hl fun i x u h1 h2=>ih i x u h1 h2 (hd x (List.mem_of_getElem? h1))
section
variable {H:Type}{enc:TypeId×Value→H}{P:Program}
theorem law_bodyT {f:FuncId}{fn:Func}{s:ChangeSpec}{apart fresh handsOn again:Bool}{n:Nat}{W:World}{args:Array Value}{ds gs:List (DataW H)}{before:List MemPlace}{tb:TypeId}{b:Nat}{zs:List Int}{q:TypeId×(Nat×Nat)}
 (hl:laidOutB P=true) (hp:fn.params.toList.all (plainTy P n)=true) (hr:(fn.params.toList.all fun t=>P.readableRec t&&decide (t<P.types.size))=true)
 (hrt:fn.resultTypes= #[tb]) (hb:P.underlying tb=some .bool) (hvars:s.vars=[])
 (hs: ∀ds:List (DataW H),ds.length=fn.params.toList.length→s.fn H (ds++[])={ results:=[.lit (.bool true)],args:=ds })
 (hval: ∀(j:Nat) t v,fn.params[j]? =some t→args[j]? =some v→Value.okWide P W .any 0 t v)
 (hW:DataW.Whole enc P fn.params.toList s.vars apart W args.toList ds gs before) (hx:W.heap[b]? =some (.cells (zs.map (Value.int .u64)).toArray q.1 q.2))
 (hno: ∀xs,wfAs P fn.params.toList xs→ ∀x∈xs,NoU x)
 (hfun: ∀xs,wfAs P fn.params.toList xs→FunQ P f (xs.map .d) [.x (tbX b (zs.map (Value.int .u64)) q) 0] (just (.d (.v (.bool true))) [.x (tbX b (zs.map (Value.int .u64)) q) 0])):
 Calls P f args W fun e W'=> ∃v,e=.returned v∧s.post enc P fn apart fresh handsOn again W args v W':=by
 have hW':=hW
 obtain⟨p,q',hA,hV,rfl,hfz,hnd⟩:=hW
 rw[hvars] at hV
 obtain⟨rfl,rfl⟩:=trodVars_none hV
 obtain⟨xs,hlen,hwf,hrd⟩:=rd_args hp hA fun j t v ht hv=>hval j t v (by simpa using ht) (by simpa using hv)
 have hdl:ds.length=fn.params.toList.length:=by
  have: ∀ {ts:List TypeId} {vs:List Value} {ds:List (DataW H)} {p:List MemPlace},DataW.TrodAll enc P W 0 (fun _=>true) true ts vs ds p→ds.length=ts.length:=by
   intro ts
   induction ts with
   |nil=>intro vs ds p h;cases vs<;>cases ds<;>first|rfl|exact h.elim
   |cons t ts ih=>
    intro vs ds p h
    cases vs with
    |nil=>cases ds<;>exact h.elim
    |cons v vs=>
     cases ds with
     |nil=>exact h.elim
     |cons d ds=>obtain⟨_,_,_,h2,_⟩:=h;simp[ih h2]
  exact this hA
 have hfb: ∀o,filt (memOf W) b o=none:=fun o=>by
  cases hfo:filt (memOf W) b o with
  |none=>rfl
  |some u=>
   have h1:=filt_le hfo
   exfalso
   have h2:(zs.map (Value.int .u64))[o]? =some u:=by
    have h3:W.cell? ⟨b,o,none⟩=some u:=h1
    unfold World.cell? at h3
    rw[hx] at h3
    simpa using h3
   simp only[List.getElem?_map,Option.map_eq_some_iff] at h2
   obtain⟨z,_,rfl⟩:=h2
   unfold Go.Proofs.YtmmjbpgdkokjgaaGreatDoor.filt at hfo
   rw[h1] at hfo
   cases hfo
 have hc:=(hfun xs hwf).rawT W (filt (memOf W)) args.toList (fun b o u h=>filt_le h) hx hfb hlen fun i x u h1 h2=>(hrd i x u h1 h2).filt (hno xs hwf x (List.mem_of_getElem? h1))
 rw[show args.toList.toArray=args by simp] at hc
 refine hc.mono fun e W' ⟨v,g,he,I,_,hv⟩=>?_
 have hv':=hv.inv_v
 subst hv'
 refine⟨_,he,post_of_below (pa:=p) (pv:=[]) hW' (fun b sp hd=>?_) (fun sp hsp=>?_) (fun sp hsp=>?_) rfl I ?_⟩
 ·rw[hs ds hdl,hrt]
  exact trodAll_cons_mk (p:=[]) (p':=[]) ⟨1,by simp[DataW.trod,Value.cells,hb]⟩ trodAll_mk0
 ·rw[hs ds hdl]
  refine stay_args hl hr hA fun x hx=>⟨I.same (hW'.lt x (List.mem_append_left _ hx)),hsp x (List.mem_append_left _ hx)⟩
 ·rw[hs ds hdl,hvars];rfl
 ·exact ok_one hrt rfl (by simp[Value.okWide,hb,Cell.okWide,Cell.ok])
end
end
section
open Go.Shelf
def lays190_ren :Go.Shelf.Ren:=⟨fun|190=>28|125=>85|258=>84|128=>141|129=>142|302=>132|303=>133|304=>134|305=>135|306=>136|307=>137|308=>138|309=>139|310=>140|333=>162|329=>163|330=>164|334=>165|335=>166|336=>167|344=>183|n=>n,fun|31=>35|9=>9|3=>3|46=>123|0=>0|51=>175|53=>177|4=>4|183=>167|182=>166|131=>172|5=>5|218=>189|222=>193|228=>207|229=>203|n=>n,fun n=>n⟩
theorem lays190 :Lays.n190 Tryz.prog lays190_ren:={
 mixed:=by kernel_rfl,
 f125:=Tryz.func85.trans (congrArg some (by kernel_rfl)),
 f128:=Tryz.func141.trans (congrArg some (by kernel_rfl)),
 f129:=Tryz.func142.trans (congrArg some (by kernel_rfl)),
 f190:=Tryz.func28.trans (congrArg some (by kernel_rfl)),
 f258:=Tryz.func84.trans (congrArg some (by kernel_rfl)),
 f302:=Tryz.func132.trans (congrArg some (by kernel_rfl)),
 f303:=Tryz.func133.trans (congrArg some (by kernel_rfl)),
 f304:=Tryz.func134.trans (congrArg some (by kernel_rfl)),
 f305:=Tryz.func135.trans (congrArg some (by kernel_rfl)),
 f306:=Tryz.func136.trans (congrArg some (by kernel_rfl)),
 f307:=Tryz.func137.trans (congrArg some (by kernel_rfl)),
 f308:=Tryz.func138.trans (congrArg some (by kernel_rfl)),
 f309:=Tryz.func139.trans (congrArg some (by kernel_rfl)),
 f310:=Tryz.func140.trans (congrArg some (by kernel_rfl)),
 f329:=Tryz.func163.trans (congrArg some (by kernel_rfl)),
 f330:=Tryz.func164.trans (congrArg some (by kernel_rfl)),
 f333:=Tryz.func162.trans (congrArg some (by kernel_rfl)),
 f334:=Tryz.func165.trans (congrArg some (by kernel_rfl)),
 f335:=Tryz.func166.trans (congrArg some (by kernel_rfl)),
 f336:=Tryz.func167.trans (congrArg some (by kernel_rfl)),
 f344:=Tryz.func183.trans (congrArg some (by kernel_rfl)),
 t0:=Tryz.underlying0,
 a0:=Tryz.isAgg0,
 z0:=Tryz.sizeOf0,
 v0:=Tryz.zeroValue0,
 t3:=Tryz.underlying3,
 a3:=Tryz.isAgg3,
 z3:=Tryz.sizeOf3,
 v3:=Tryz.zeroValue3,
 t4:=Tryz.underlying4,
 a4:=Tryz.isAgg4,
 z4:=Tryz.sizeOf4,
 v4:=Tryz.zeroValue4,
 t5:=Tryz.underlying5,
 a5:=Tryz.isAgg5,
 z5:=Tryz.sizeOf5,
 v5:=Tryz.zeroValue5,
 t9:=Tryz.underlying9,
 a9:=Tryz.isAgg9,
 z9:=Tryz.sizeOf9,
 v9:=Tryz.zeroValue9,
 t31:=Tryz.underlying35,
 a31:=Tryz.isAgg35,
 z31:=Tryz.sizeOf35,
 v31:=Tryz.zeroValue35,
 t46:=Tryz.underlying123,
 a46:=Tryz.isAgg123,
 z46:=Tryz.sizeOf123,
 v46:=Tryz.zeroValue123,
 t51:=Tryz.underlying175,
 a51:=Tryz.isAgg175,
 z51:=Tryz.sizeOf175,
 v51:=Tryz.zeroValue175,
 t53:=Tryz.underlying177,
 a53:=Tryz.isAgg177,
 z53:=Tryz.sizeOf177,
 v53:=Tryz.zeroValue177,
 t131:=Tryz.underlying172,
 a131:=Tryz.isAgg172,
 z131:=Tryz.sizeOf172,
 v131:=Tryz.zeroValue172,
 t182:=Tryz.underlying166,
 a182:=Tryz.isAgg166,
 z182:=Tryz.sizeOf166,
 v182:=Tryz.zeroValue166,
 t183:=Tryz.underlying167,
 a183:=Tryz.isAgg167,
 z183:=Tryz.sizeOf167,
 v183:=Tryz.zeroValue167,
 t218:=Tryz.underlying189,
 a218:=Tryz.isAgg189,
 z218:=Tryz.sizeOf189,
 v218:=Tryz.zeroValue189,
 t222:=Tryz.underlying193,
 a222:=Tryz.isAgg193,
 z222:=Tryz.sizeOf193,
 v222:=Tryz.zeroValue193,
 t228:=Tryz.underlying207,
 a228:=Tryz.isAgg207,
 z228:=Tryz.sizeOf207,
 v228:=Tryz.zeroValue207,
 t229:=Tryz.underlying203,
 a229:=Tryz.isAgg203,
 z229:=Tryz.sizeOf203,
 v229:=Tryz.zeroValue203 }
def lays138_ren :Go.Shelf.Ren:=⟨fun|138=>260|195=>261|218=>262|143=>263|219=>264|217=>265|225=>266|224=>267|267=>268|266=>269|314=>270|n=>n,fun|9=>9|3=>3|4=>4|5=>5|0=>0|46=>123|146=>308|51=>175|n=>n,fun|1=>1|n=>n⟩
theorem lays138 :Lays.n138 Tryz.prog lays138_ren:={
 mixed:=by kernel_rfl,
 f138:=Tryz.func260.trans (congrArg some (by kernel_rfl)),
 f143:=Tryz.func263.trans (congrArg some (by kernel_rfl)),
 f195:=Tryz.func261.trans (congrArg some (by kernel_rfl)),
 f217:=Tryz.func265.trans (congrArg some (by kernel_rfl)),
 f218:=Tryz.func262.trans (congrArg some (by kernel_rfl)),
 f219:=Tryz.func264.trans (congrArg some (by kernel_rfl)),
 f224:=Tryz.func267.trans (congrArg some (by kernel_rfl)),
 f225:=Tryz.func266.trans (congrArg some (by kernel_rfl)),
 f266:=Tryz.func269.trans (congrArg some (by kernel_rfl)),
 f267:=Tryz.func268.trans (congrArg some (by kernel_rfl)),
 f314:=Tryz.func270.trans (congrArg some (by kernel_rfl)),
 t0:=Tryz.underlying0,
 a0:=Tryz.isAgg0,
 z0:=Tryz.sizeOf0,
 v0:=Tryz.zeroValue0,
 t3:=Tryz.underlying3,
 a3:=Tryz.isAgg3,
 z3:=Tryz.sizeOf3,
 v3:=Tryz.zeroValue3,
 t4:=Tryz.underlying4,
 a4:=Tryz.isAgg4,
 z4:=Tryz.sizeOf4,
 v4:=Tryz.zeroValue4,
 t5:=Tryz.underlying5,
 a5:=Tryz.isAgg5,
 z5:=Tryz.sizeOf5,
 v5:=Tryz.zeroValue5,
 t9:=Tryz.underlying9,
 a9:=Tryz.isAgg9,
 z9:=Tryz.sizeOf9,
 v9:=Tryz.zeroValue9,
 t46:=Tryz.underlying123,
 a46:=Tryz.isAgg123,
 z46:=Tryz.sizeOf123,
 v46:=Tryz.zeroValue123,
 t51:=Tryz.underlying175,
 a51:=Tryz.isAgg175,
 z51:=Tryz.sizeOf175,
 v51:=Tryz.zeroValue175,
 t146:=Tryz.underlying308,
 a146:=Tryz.isAgg308,
 z146:=Tryz.sizeOf308,
 v146:=Tryz.zeroValue308,
 g1:=by kernel_rfl }
def lays173_ren :Go.Shelf.Ren:=⟨fun|173=>86|246=>143|283=>168|284=>169|285=>170|286=>171|129=>142|317=>184|318=>185|319=>186|320=>187|337=>196|338=>197|n=>n,fun|2=>2|3=>3|9=>9|4=>4|171=>196|0=>0|53=>177|37=>22|5=>5|173=>198|212=>211|51=>175|20=>20|213=>212|46=>123|232=>233|233=>234|n=>n,fun|17=>0|18=>2|19=>3|n=>n⟩
theorem lays173 :LaysM.n173 Tryz.prog lays173_ren:={
 mixed:=by kernel_rfl,
 f129:=Tryz.func142.trans (congrArg some (by kernel_rfl)),
 f173:=Tryz.func86.trans (congrArg some (by kernel_rfl)),
 f246:=Tryz.func143.trans (congrArg some (by kernel_rfl)),
 f283:=Tryz.func168.trans (congrArg some (by kernel_rfl)),
 f284:=Tryz.func169.trans (congrArg some (by kernel_rfl)),
 f285:=Tryz.func170.trans (congrArg some (by kernel_rfl)),
 f286:=Tryz.func171.trans (congrArg some (by kernel_rfl)),
 f317:=Tryz.func184.trans (congrArg some (by kernel_rfl)),
 f318:=Tryz.func185.trans (congrArg some (by kernel_rfl)),
 f319:=Tryz.func186.trans (congrArg some (by kernel_rfl)),
 f320:=Tryz.func187.trans (congrArg some (by kernel_rfl)),
 f337:=Tryz.func196.trans (congrArg some (by kernel_rfl)),
 f338:=Tryz.func197.trans (congrArg some (by kernel_rfl)),
 t0:=Tryz.underlying0,
 a0:=Tryz.isAgg0,
 z0:=Tryz.sizeOf0,
 v0:=Tryz.zeroValue0,
 t2:=Tryz.underlying2,
 a2:=Tryz.isAgg2,
 z2:=Tryz.sizeOf2,
 v2:=Tryz.zeroValue2,
 t3:=Tryz.underlying3,
 a3:=Tryz.isAgg3,
 z3:=Tryz.sizeOf3,
 v3:=Tryz.zeroValue3,
 t4:=Tryz.underlying4,
 a4:=Tryz.isAgg4,
 z4:=Tryz.sizeOf4,
 v4:=Tryz.zeroValue4,
 t5:=Tryz.underlying5,
 a5:=Tryz.isAgg5,
 z5:=Tryz.sizeOf5,
 v5:=Tryz.zeroValue5,
 t9:=Tryz.underlying9,
 a9:=Tryz.isAgg9,
 z9:=Tryz.sizeOf9,
 v9:=Tryz.zeroValue9,
 t20:=Tryz.underlying20,
 a20:=Tryz.isAgg20,
 z20:=Tryz.sizeOf20,
 v20:=Tryz.zeroValue20,
 t37:=Tryz.underlying22,
 a37:=Tryz.isAgg22,
 z37:=Tryz.sizeOf22,
 v37:=Tryz.zeroValue22,
 t46:=Tryz.underlying123,
 a46:=Tryz.isAgg123,
 z46:=Tryz.sizeOf123,
 v46:=Tryz.zeroValue123,
 t51:=Tryz.underlying175,
 a51:=Tryz.isAgg175,
 z51:=Tryz.sizeOf175,
 v51:=Tryz.zeroValue175,
 t53:=Tryz.underlying177,
 a53:=Tryz.isAgg177,
 z53:=Tryz.sizeOf177,
 v53:=Tryz.zeroValue177,
 t171:=Tryz.underlying196,
 a171:=Tryz.isAgg196,
 z171:=Tryz.sizeOf196,
 v171:=Tryz.zeroValue196,
 t173:=Tryz.underlying198,
 a173:=Tryz.isAgg198,
 z173:=Tryz.sizeOf198,
 v173:=Tryz.zeroValue198,
 t212:=Tryz.underlying211,
 a212:=Tryz.isAgg211,
 z212:=Tryz.sizeOf211,
 v212:=Tryz.zeroValue211,
 t213:=Tryz.underlying212,
 a213:=Tryz.isAgg212,
 z213:=Tryz.sizeOf212,
 t232:=Tryz.underlying233,
 a232:=Tryz.isAgg233,
 z232:=Tryz.sizeOf233,
 v232:=Tryz.zeroValue233,
 t233:=Tryz.underlying234,
 a233:=Tryz.isAgg234,
 z233:=Tryz.sizeOf234,
 v233:=Tryz.zeroValue234,
 g17:=by kernel_rfl,
 g18:=by kernel_rfl,
 g19:=by kernel_rfl,
 i0:=by kernel_rfl,
 i2:=by kernel_rfl,
 i3:=by kernel_rfl,
 i4:=by kernel_rfl,
 i5:=by kernel_rfl,
 i9:=by kernel_rfl,
 i20:=by kernel_rfl,
 i37:=by kernel_rfl,
 i46:=by kernel_rfl,
 i51:=by kernel_rfl,
 i53:=by kernel_rfl,
 i171:=by kernel_rfl,
 i173:=by kernel_rfl,
 i212:=by kernel_rfl,
 i232:=by kernel_rfl,
 i233:=by kernel_rfl,
 m17:=by kernel_rfl,
 m18:=by kernel_rfl,
 m19:=by kernel_rfl }
def lays156_ren :Go.Shelf.Ren:=⟨fun|156=>32|165=>89|166=>31|169=>33|240=>88|241=>146|276=>145|277=>174|n=>n,fun|31=>35|9=>9|3=>3|4=>4|0=>0|20=>20|72=>69|76=>74|70=>67|37=>22|75=>73|127=>126|164=>178|5=>5|80=>77|n=>n,fun n=>n⟩
theorem lays156 :Lays.n156 Tryz.prog lays156_ren:={
 mixed:=by kernel_rfl,
 f156:=Tryz.func32.trans (congrArg some (by kernel_rfl)),
 f165:=Tryz.func89.trans (congrArg some (by kernel_rfl)),
 f166:=Tryz.func31.trans (congrArg some (by kernel_rfl)),
 f169:=Tryz.func33.trans (congrArg some (by kernel_rfl)),
 f240:=Tryz.func88.trans (congrArg some (by kernel_rfl)),
 f241:=Tryz.func146.trans (congrArg some (by kernel_rfl)),
 f276:=Tryz.func145.trans (congrArg some (by kernel_rfl)),
 f277:=Tryz.func174.trans (congrArg some (by kernel_rfl)),
 t0:=Tryz.underlying0,
 a0:=Tryz.isAgg0,
 z0:=Tryz.sizeOf0,
 v0:=Tryz.zeroValue0,
 t3:=Tryz.underlying3,
 a3:=Tryz.isAgg3,
 z3:=Tryz.sizeOf3,
 v3:=Tryz.zeroValue3,
 t4:=Tryz.underlying4,
 a4:=Tryz.isAgg4,
 z4:=Tryz.sizeOf4,
 v4:=Tryz.zeroValue4,
 t9:=Tryz.underlying9,
 a9:=Tryz.isAgg9,
 z9:=Tryz.sizeOf9,
 v9:=Tryz.zeroValue9,
 t20:=Tryz.underlying20,
 a20:=Tryz.isAgg20,
 z20:=Tryz.sizeOf20,
 v20:=Tryz.zeroValue20,
 t31:=Tryz.underlying35,
 a31:=Tryz.isAgg35,
 z31:=Tryz.sizeOf35,
 v31:=Tryz.zeroValue35,
 t37:=Tryz.underlying22,
 a37:=Tryz.isAgg22,
 z37:=Tryz.sizeOf22,
 v37:=Tryz.zeroValue22,
 t70:=Tryz.underlying67,
 a70:=Tryz.isAgg67,
 z70:=Tryz.sizeOf67,
 v70:=Tryz.zeroValue67,
 t72:=Tryz.underlying69,
 a72:=Tryz.isAgg69,
 z72:=Tryz.sizeOf69,
 v72:=Tryz.zeroValue69,
 t75:=Tryz.underlying73,
 a75:=Tryz.isAgg73,
 z75:=Tryz.sizeOf73,
 v75:=Tryz.zeroValue73,
 t76:=Tryz.underlying74,
 a76:=Tryz.isAgg74,
 z76:=Tryz.sizeOf74,
 v76:=Tryz.zeroValue74,
 t127:=Tryz.underlying126,
 a127:=Tryz.isAgg126,
 z127:=Tryz.sizeOf126,
 v127:=Tryz.zeroValue126,
 t164:=Tryz.underlying178,
 a164:=Tryz.isAgg178,
 z164:=Tryz.sizeOf178,
 v164:=Tryz.zeroValue178 }
theorem lays156_X :Go.Proofs.Builder.Extra Tryz.prog lays156_ren:={
 sizeBuilder:=by kernel_rfl
 liesBuilder:=by kernel_rfl
 t5:=Tryz.underlying5
 a5:=Tryz.isAgg5
 z5:=Tryz.sizeOf5
 v5:=Tryz.zeroValue5
 infoByte:=by kernel_rfl
 cellsByte:=by kernel_rfl
 sizeByte:=by kernel_rfl
 neB5:=by decide }
end
noncomputable def gTab :Nat:=((Tryz.prog.globalNamed "internal/strconv.uint64pow10").getD 0)
theorem gTab_is :env.P.globalNamed "internal/strconv.uint64pow10" =some gTab:=by kernel_rfl
noncomputable abbrev tabO (q:TypeId×(Nat×Nat)):Ob:=.x (tbX gTab (Lib.pow10Tab.map (Value.int .u64)) q) 0
theorem tab_is {w:World}{q:TypeId×(Nat×Nat)}(h:w.heap[gTab]? =some (.cells (Lib.pow10Tab.map (Value.int .u64)).toArray q.1 q.2)):Lib.TabIs env.P w "internal/strconv.uint64pow10" .u64 Lib.pow10Tab:=by
 unfold Lib.TabIs World.var?
 rw[gTab_is]
 simp only[Option.bind_some,h]
theorem RetR.tb {P:Program}{fn:Func}{X:ObX}{rest:List Ob}{x y:D}{e:Exit}{S:St}{ts:List T}(he:e=.ret∨e=.normal)(hts:resL S fn.results.toList=some ts)(hok:resOK P S fn.results.toList)
 (hn:norm S.ob (resT ts)=.d x) (hob:S.ob=.x X 0::rest) (h:x=y):RetR P fn 1 (just (.d y) [.x X 0]) e S:=by
 subst h
 exact RetR.own (ob':=[.x X 0]) ⟨[0],[0],S.ob.length⟩ he hts hok (by rw[hn];rfl) rfl rfl rfl rfl rfl ⟨by rw[hob];rfl,trivial⟩ rfl ⟨rfl,rfl⟩
theorem RetR.tb' {P:Program}{fn:Func}{X:ObX}{rest:List Ob}{x y:D}{e:Exit}{S:St}{ts:List T}(h:x=y)(he:e=.ret∨e=.normal:=by exact .inl rfl)(hts:resL S fn.results.toList=some ts:=by exact rfl)
 (hok:resOK P S fn.results.toList:=by first|trivial|exact resOK_of (by exact rfl)) (hn:norm S.ob (resT ts)=.d x:=by exact rfl) (hob:S.ob=.x X 0::rest:=by exact rfl):RetR P fn 1 (just (.d y) [.x X 0]) e S:=
 RetR.tb he hts hok hn hob h
section
variable {E:Env}{N:Nm}{K:St→Prop}{ops l:List Oper}{ob:List Ob}{tm:Nat→T}{ty:TypeId}{pos:String}{after:Array Edge}{gd:Option (Nat×Bool)}{d:Nat}
theorem WD.b2s {src dst e:TypeId}{x:Operand}{ns:List Int}(hw:St.want ⟨tm,ob⟩ ops ⟨some d,.convert src dst x,ty,pos,after,gd⟩=some true)(hd:Nat.blt d N.n=true)
 (hs:(E.ty src).kind=.slice e) (he:(E.ty e).kind=.int .u8) (hdst:(E.ty dst).kind=.string) (hx:srcRows ob (St.ev ⟨tm,ob⟩ x)=some (1,ns.map byteRow))
 (kk:WD E.P N ops ob K l (upd tm d (.d (.v (.string (strB ns)))))):WD E.P N ops ob K (⟨some d,.convert src dst x,ty,pos,after,gd⟩::l) tm:=
 .cons _ (fun tm' hag l Q k'=>WL.b2s (S:=⟨tm',ob⟩) (by rw[want_agree hag];exact hw) hd hs he hdst (by rw[ev_agree hag (by simp[Op.operands])];exact hx) k') kk
end
theorem entersT {P:Program}{f:FuncId}{fn:Func}{c:Code}(hf:P.funcs[f]? =some fn)(hb:fn.body=some c)(hname:(fn.name== "runtime.NumGoroutine")=false)(vals:Array Value)(w:World):
 (callFunc f vals).run P w=.ok (.enter f vals) w:=by
 unfold callFunc
 simp only[Sem.run_bind,run_program,Result.andThen_ok,hf,hname,hb,Bool.false_eq_true,if_false,Option.isNone_some,Sem.run_pure]
def itoaS (n:Int):ByteArray:=⟨(Lib.itoa n).toArray⟩
def decS (n:Nat):ByteArray:=⟨(Lib.decDigits n).toArray⟩
theorem itoaS_nat (n:Nat):itoaS (n:Int)=decS n:=by unfold itoaS decS;rw[Lib.itoa_nonneg]
theorem itoaS_neg (n:Nat)(h:1≤n):itoaS (-(n:Int))=⟨#[45]⟩++decS n:=by
 unfold itoaS decS
 rw[Lib.itoa_neg n h]
 apply ByteArray.ext
 rw[ByteArray.data_append]
 simp
theorem decS_size (n:Nat)(h:n<18446744073709551616):1≤(decS n).size∧(decS n).size≤20:=by
 show 1≤(List.toArray _).size∧(List.toArray _).size≤20
 rw[List.size_toArray]
 by_cases h0:n<10
 ·rw[Lib.decDigits_one h0];simp
 ·constructor
  ·rw[Lib.decDigits,dif_neg h0];simp
  ·rw[Lib.decDigits_length]
   have:=Lib.numDigits_eq n (by omega) h
   split at this<;>omega
theorem itoaS_size (n:Int)(h0: -9223372036854775808≤n)(h1:n≤9223372036854775807):1≤(itoaS n).size∧(itoaS n).size≤21:=by
 by_cases h:n<0
 ·obtain⟨u,rfl⟩: ∃u:Nat,n= -(u:Int):=⟨n.natAbs,by omega⟩
  rw[itoaS_neg u (by omega),ByteArray.size_append]
  have:=decS_size u (by omega)
  have h2:(⟨#[45]⟩:ByteArray).size=1:=rfl
  omega
 ·obtain⟨u,rfl⟩: ∃u:Nat,n=(u:Int):=⟨n.toNat,by omega⟩
  rw[itoaS_nat]
  have:=decS_size u (by omega)
  omega
theorem FormatInt_fn (q:TypeId×(Nat×Nat))(n:Int)(h0: -9223372036854775808≤n)(h1:n≤9223372036854775807):FunQ env.P 86 [vI .i64 n,vI .i64 10] [tabO q] (just (.d (dS (itoaS n))) [tabO q]):=by
 refine FunQ.ofRawT (args:=[dI n,dI 10]) (entersT Tryz.func86 (c:=_) rfl (by kernel_rfl)) fun w σ0 vals hσ hb hl hr=>?_
 match vals,hl with
 |[v0,v1],_=>
  have e0:v0=.int .i64 n:=by have:=hr 0 _ v0 rfl rfl;cases this;rfl
  have e1:v1=.int .i64 10:=by have:=hr 1 _ v1 rfl rfl;cases this;rfl
  subst e0;subst e1
  refine(Any.strconv_FormatInt_10 lays173 n h0 h1 w (tab_is hb)).mono fun e w' ⟨he,k,os,hw⟩=>⟨_,he,?_,fun g=>.d _ _ (.v _)⟩
  rw[hw]
  exact Lib.below_grow _ w (Nat.le_refl _) k os
theorem strB_digit (d:Nat)(h:d<10):strB [48+(d:Int)]=⟨#[UInt8.ofNat (48+d)]⟩:=by
 unfold strB
 simp only[List.foldl_cons,List.foldl_nil]
 rw[show(48+(d:Int)).toNat=48+d by omega]
 rfl
theorem l2Digits_fn : ∀(n:Nat),n≤9223372036854775807→Fun env.P 35 [dI n] (.d (dS (decS n))) []:=by
 intro n
 induction n using Nat.strongRecOn with
 |ind n ih=>
  intro hn
  by_cases h10:n<10
  ·have hd:decS n=strB [48+(n:Int)]:=by rw[strB_digit n h10];unfold decS;rw[Lib.decDigits_one h10]
   rw[hd]
   refine Fun.intro Tryz.func35 rfl (by kernel_rfl) rfl ?_
   repeat'(first|refine WG.b2s (E:=env) (ns:=[48+(n:Int)]) rfl rfl rfl rfl rfl rfl ?_|refine Z1 ?_|fail|((refine SP (fun h=>?_) fun h=>?_)<;>(try(exfalso;first|contradiction|omega))))
   (refine W.ret ?_;(first|refine RetQ.d' ?_))
   rfl
  ·have hmod:((n:Int).tmod 10)=((n % 10:Nat):Int):=by rw[Int.tmod_eq_emod_of_nonneg (by omega)];rfl
   have hmod2:0≤((n:Int).tmod 10)∧((n:Int).tmod 10)≤9:=by rw[hmod];omega
   have hdiv:((n:Int).tdiv 10)=((n / 10:Nat):Int):=by rw[Int.tdiv_eq_ediv_of_nonneg (by omega)];rfl
   have hdiv2:0≤((n:Int).tdiv 10)∧((n:Int).tdiv 10)≤n:=by rw[hdiv];omega
   have hd:decS n=decS (n / 10)++strB [48+((n:Int).tmod 10)]:=by
    rw[hmod,strB_digit (n % 10) (by omega)]
    unfold decS
    rw[Lib.decDigits,dif_neg h10]
    apply ByteArray.ext
    rw[ByteArray.data_append]
    simp
   have ih2:=ih (n / 10) (by omega) (by omega)
   rw[←hdiv] at ih2
   have hsz:=decS_size (n / 10) (by omega)
   have hb:(strB [48+((n:Int).tmod 10)]).size=1:=rfl
   rw[hd]
   generalize decS (n / 10)=b at*
   refine Fun.intro Tryz.func35 rfl (by kernel_rfl) rfl ?_
   repeat'(first|refine WD.b2s (E:=env) (ns:=[48+((n:Int).tmod 10)]) rfl rfl rfl rfl rfl rfl ?_|refine Z1 ?_|refine WD.c (E:=env) rfl rfl (ih2) rfl rfl ?_|((refine SP (fun h=>?_) fun h=>?_)<;>(try(exfalso;first|contradiction|omega))))
   all_goals (refine W.ret ?_;(first|refine RetQ.d' ?_))
   all_goals rfl
section
open Go.ChangeShapes Go.WideShapes Go.ChangeAt Go.RowKit
theorem tied_own :ownKnob Tryz.prog.godebug=none:=by kernel_rfl
theorem tied_laid :laidOutB Tryz.prog=true:=by kernel_rfl
abbrev laidL :List (String×DataW Unit):=[("math/bits.deBruijn32tab",Rows.laid_math_bits_deBruijn32tab),("math/bits.deBruijn64tab",Rows.laid_math_bits_deBruijn64tab),("internal/strconv.uint64pow10",Rows.laid_internal_strconv_uint64pow10)]
theorem of_laid {W:World}(h:laidMetH Tryz.prog laidL W): ∃q:TypeId×(Nat×Nat),W.heap[gTab]? =some (.cells (Lib.pow10Tab.map (Value.int .u64)).toArray q.1 q.2):=by
 rw[MakeChecks.laidMetH_plain _ _ _ (by kernel_rfl)] at h
 have ht:Lib.TabIs Tryz.prog W "internal/strconv.uint64pow10" .u64 Lib.pow10Tab:=
  Lib.tabIs_of_head (rest:=[]) gTab_is (by kernel_rfl) (t:=211) (e:=177) (n:=20) (by kernel_rfl) (by kernel_rfl) (by kernel_rfl) (by kernel_rfl) h.tail.tail
 unfold Lib.TabIs World.var? at ht
 rw[show Tryz.prog.globalNamed "internal/strconv.uint64pow10" =some gTab from gTab_is] at ht
 simp only[Option.bind_some] at ht
 split at ht
 ·rename_i cs t fr hh
  exact⟨(t,fr),by rw[hh,Option.some.inj ht]⟩
 ·cases ht
theorem door_met (os:Os)(args:Array Value):laidMetH Tryz.prog laidL ((World.doorLaid Tryz.prog 400 os).forCall (fun _ _=>0) ⟨#[],args,[]⟩).memory:=
 laidMetH_of_parts3 (fuel:=8) (laidMet_of_run' 8 (by kernel_rfl) (by kernel_rfl)) (by kernel_rfl) (by kernel_rfl)
end
def lessK (a b:ByteArray):Bool:=Op.bytesLess a.data.toList b.data.toList
def incr :List ByteArray→Prop
 |a::b::r=>lessK a b=true∧incr (b::r)
 |_=>True
theorem less_irrefl : ∀l:List UInt8,Op.bytesLess l l=false
 |[]=>rfl
 |a::r=>by
  have:=less_irrefl r
  simp[Op.bytesLess,this]
theorem less_trans : ∀a b c:List UInt8,Op.bytesLess a b=true→Op.bytesLess b c=true→Op.bytesLess a c=true
 |a,b,[],h1,h2=>by cases b<;>simp[Op.bytesLess] at h2
 |a,[],_::_,h1,h2=>by cases a<;>simp[Op.bytesLess] at h1
 |[],_::_,_::_,h1,h2=>rfl
 |a::x,b::y,c::z,h1,h2=>by
  have ih:=less_trans x y z
  simp only[Op.bytesLess,Bool.or_eq_true,Bool.and_eq_true,decide_eq_true_eq,beq_iff_eq,UInt8.lt_iff_toNat_lt] at h1 h2 ⊢
  rcases h1 with h1|⟨rfl,h1⟩
  ·rcases h2 with h2|⟨rfl,h2⟩
   ·left;omega
   ·left;exact h1
  ·rcases h2 with h2|⟨rfl,h2⟩
   ·left;exact h2
   ·right;exact⟨rfl,ih h1 h2⟩
theorem less_tri : ∀a b:List UInt8,Op.bytesLess a b=false→Op.bytesLess b a=false→a=b
 |[],[],_,_=>rfl
 |[],_::_,h,_=>by simp[Op.bytesLess] at h
 |_::_,[],_,h=>by simp[Op.bytesLess] at h
 |a::x,b::y,h1,h2=>by
  simp only[Op.bytesLess,Bool.or_eq_false_iff,Bool.and_eq_false_iff,decide_eq_false_iff_not,UInt8.lt_iff_toNat_lt,beq_eq_false_iff_ne] at h1 h2
  have e:a=b:=by
   apply UInt8.toNat_inj.1
   omega
  subst e
  have:=less_tri x y (by simpa using h1.2) (by simpa using h2.2)
  rw[this]
theorem less_getD : ∀ {ks:List ByteArray},incr ks→ ∀(p q:Nat),p<q→q<ks.length→lessK (ks.getD p default) (ks.getD q default)=true
 |[],_,p,q,h1,h2=>by simp at h2
 |[a],_,p,q,h1,h2=>by simp at h2;omega
 |a::b::r,h,0,q+1,h1,h2=>by
  cases q with
  |zero=>exact h.1
  |succ q=>
   have:=less_getD h.2 0 (q+1) (by omega) (by simpa using h2)
   have h2':lessK b ((b::r).getD (q+1) default)=true:=by simpa using this
   show lessK a ((b::r).getD (q+1) default)=true
   exact less_trans _ _ _ h.1 h2'
 |a::b::r,h,p+1,q+1,h1,h2=>by
  have:=less_getD h.2 p q (by omega) (by simpa using h2)
  simpa using this
def posK (key:ByteArray):List ByteArray→Nat
 |[]=>0
 |a::r=>if lessK a key=true then posK key r+1 else 0
def hasK (ks:List ByteArray)(key:ByteArray):Bool:=decide (posK key ks<ks.length)&&decide (ks.getD (posK key ks) default=key)
theorem incr_cons {a:ByteArray}{r:List ByteArray}:incr (a::r)↔(∀b∈r,lessK a b=true)∧incr r:=by
 constructor
 ·intro h
  refine⟨?_,by cases r with|nil=>trivial|cons b r=>exact h.2⟩
  intro b hb
  obtain⟨j,hj,rfl⟩:=List.getElem_of_mem hb
  have:=less_getD h 0 (j+1) (by omega) (by simpa using hj)
  simpa [hj] using this
 ·rintro⟨h1,h2⟩
  cases r with
  |nil=>trivial
  |cons b r=>exact⟨h1 b (List.mem_cons_self ..),h2⟩
def insK (key:ByteArray)(ks:List ByteArray):List ByteArray:=if hasK ks key=true then ks else ks.take (posK key ks)++key::ks.drop (posK key ks)
def insX {α:Type}(key:ByteArray)(x:α)(ks:List ByteArray)(xs:List α):List α:=if hasK ks key=true then xs.set (posK key ks) x else xs.take (posK key ks)++x::xs.drop (posK key ks)
theorem posK_le (key:ByteArray): ∀ks:List ByteArray,posK key ks≤ks.length
 |[]=>Nat.le_refl _
 |a::r=>by
  have:=posK_le key r
  rw[posK]
  split<;>simp<;>omega
theorem insK_length (key:ByteArray)(ks:List ByteArray):(insK key ks).length≤ks.length+1:=by
 have:=posK_le key ks
 unfold insK
 split
 ·omega
 ·simp;omega
theorem insX_length {α:Type}(key:ByteArray)(x:α)(ks:List ByteArray)(xs:List α)(h:xs.length=ks.length):(insX key x ks xs).length=(insK key ks).length:=by
 have:=posK_le key ks
 unfold insX insK
 split
 ·simp[h]
 ·simp[h]
end Go.Proofs.YtmmjbpgdkokjgaaGreatDoor
