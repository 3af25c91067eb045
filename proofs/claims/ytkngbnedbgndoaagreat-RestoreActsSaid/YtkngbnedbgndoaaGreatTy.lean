import Derived.Test.YtkngbnedbgndoaaGreatSlV
set_option linter.unusedVariables false
namespace Go.Proofs.YtkngbnedbgndoaaGreat
open Go.SL
structure dynposmake_Src where
 L : List Int
 At : Int
 deriving Inhabited
def q121 (x : dynposmake_Src) : List Pd := [.s (x.L.map pI), .v (.int .i64 x.At)]
structure api_Breaker where
 Kind : Int
 A : Int
 B : Int
 deriving Inhabited
def q66 (x : api_Breaker) : List Pd := [.v (.int .i64 x.Kind), .v (.int .i64 x.A), .v (.int .i64 x.B)]
structure api_Source where
 Rating : Int
 Least : Int
 Start : Int
 deriving Inhabited
def q57 (x : api_Source) : List Pd := [.v (.int .i64 x.Rating), .v (.int .i64 x.Least), .v (.int .i64 x.Start)]
structure api_Consumer where
 Load : Int
 Least : Int
 Preference : Int
 Thruster : Int
 Needs : List Int
 deriving Inhabited
def q108 (x : api_Consumer) : List Pd := [.v (.int .i64 x.Load), .v (.int .i64 x.Least), .v (.int .i64 x.Preference), .v (.int .i64 x.Thruster), .s (x.Needs.map pI)]
structure api_Board where
 Buses : Int
 Breakers : List api_Breaker
 Sources : List api_Source
 Consumers : List api_Consumer
 Phase : Int
 Frequency : Int
 deriving Inhabited
def q29 (x : api_Board) : List Pd := [.v (.int .i64 x.Buses), .s (x.Breakers.map q66), .s (x.Sources.map q57), .s (x.Consumers.map q108), .v (.int .i64 x.Phase), .v (.int .i64 x.Frequency)]
structure api_Running where
 State : Int
 Since : Int
 Frequency : Int
 Phase : Int
 deriving Inhabited
def q59 (x : api_Running) : List Pd := [.v (.int .i64 x.State), .v (.int .i64 x.Since), .v (.int .i64 x.Frequency), .v (.int .i64 x.Phase)]
structure api_Part where
 Kind : Int
 Number : Int
 deriving Inhabited
def q119 (x : api_Part) : List Pd := [.v (.int .i64 x.Kind), .v (.int .i64 x.Number)]
structure api_Power where
 Closed : List Bool
 Sources : List api_Running
 Limits : List Int
 Broken : List api_Part
 deriving Inhabited
def q35 (x : api_Power) : List Pd := [.s (x.Closed.map pB), .s (x.Sources.map q59), .s (x.Limits.map pI), .s (x.Broken.map q119)]
structure api_Island where
 Buses : List Int
 Sources : List Int
 Consumers : List Int
 deriving Inhabited
def q78 (x : api_Island) : List Pd := [.s (x.Buses.map pI), .s (x.Sources.map pI), .s (x.Consumers.map pI)]
structure api_Act where
 Kind : Int
 Unit : Int
 Value : Int
 deriving Inhabited
def q42 (x : api_Act) : List Pd := [.v (.int .i64 x.Kind), .v (.int .i64 x.Unit), .v (.int .i64 x.Value)]
structure restore_worker where
 board : api_Board
 power : api_Power
 time : Int
 deriving Inhabited
def q130 (x : restore_worker) : List Pd := [.v (.int .i64 x.board.Buses), .s (x.board.Breakers.map q66), .s (x.board.Sources.map q57), .s (x.board.Consumers.map q108), .v (.int .i64 x.board.Phase), .v (.int .i64 x.board.Frequency), .s (x.power.Closed.map pB), .s (x.power.Sources.map q59), .s (x.power.Limits.map pI), .s (x.power.Broken.map q119), .v (.int .i64 x.time)]
structure shed_relief where
 board : api_Board
 power : api_Power
 acts : List api_Act
 deriving Inhabited
def q244 (x : shed_relief) : List Pd := [.v (.int .i64 x.board.Buses), .s (x.board.Breakers.map q66), .s (x.board.Sources.map q57), .s (x.board.Consumers.map q108), .v (.int .i64 x.board.Phase), .v (.int .i64 x.board.Frequency), .s (x.power.Closed.map pB), .s (x.power.Sources.map q59), .s (x.power.Limits.map pI), .s (x.power.Broken.map q119), .s (x.acts.map q42)]
structure restore_planner where
 board : api_Board
 power : api_Power
 goal : List Bool
 acts : List api_Act
 deriving Inhabited
def q144 (x : restore_planner) : List Pd := [.v (.int .i64 x.board.Buses), .s (x.board.Breakers.map q66), .s (x.board.Sources.map q57), .s (x.board.Consumers.map q108), .v (.int .i64 x.board.Phase), .v (.int .i64 x.board.Frequency), .s (x.power.Closed.map pB), .s (x.power.Sources.map q59), .s (x.power.Limits.map pI), .s (x.power.Broken.map q119), .s (x.goal.map pB), .s (x.acts.map q42)]
def d121 (x : dynposmake_Src) : List D := [DS pI x.L, I x.At]
def d66 (x : api_Breaker) : List D := [I x.Kind, I x.A, I x.B]
def d57 (x : api_Source) : List D := [I x.Rating, I x.Least, I x.Start]
def d108 (x : api_Consumer) : List D := [I x.Load, I x.Least, I x.Preference, I x.Thruster, DS pI x.Needs]
def d29 (x : api_Board) : List D := [I x.Buses, DS q66 x.Breakers, DS q57 x.Sources, DS q108 x.Consumers, I x.Phase, I x.Frequency]
def d59 (x : api_Running) : List D := [I x.State, I x.Since, I x.Frequency, I x.Phase]
def d119 (x : api_Part) : List D := [I x.Kind, I x.Number]
def d35 (x : api_Power) : List D := [DS pB x.Closed, DS q59 x.Sources, DS pI x.Limits, DS q119 x.Broken]
def d78 (x : api_Island) : List D := [DS pI x.Buses, DS pI x.Sources, DS pI x.Consumers]
def d42 (x : api_Act) : List D := [I x.Kind, I x.Unit, I x.Value]
def d130 (x : restore_worker) : List D := [I x.board.Buses, DS q66 x.board.Breakers, DS q57 x.board.Sources, DS q108 x.board.Consumers, I x.board.Phase, I x.board.Frequency, DS pB x.power.Closed, DS q59 x.power.Sources, DS pI x.power.Limits, DS q119 x.power.Broken, I x.time]
def d244 (x : shed_relief) : List D := [I x.board.Buses, DS q66 x.board.Breakers, DS q57 x.board.Sources, DS q108 x.board.Consumers, I x.board.Phase, I x.board.Frequency, DS pB x.power.Closed, DS q59 x.power.Sources, DS pI x.power.Limits, DS q119 x.power.Broken, DS q42 x.acts]
def d144 (x : restore_planner) : List D := [I x.board.Buses, DS q66 x.board.Breakers, DS q57 x.board.Sources, DS q108 x.board.Consumers, I x.board.Phase, I x.board.Frequency, DS pB x.power.Closed, DS q59 x.power.Sources, DS pI x.power.Limits, DS q119 x.power.Broken, DS pB x.goal, DS q42 x.acts]
end Go.Proofs.YtkngbnedbgndoaaGreat
