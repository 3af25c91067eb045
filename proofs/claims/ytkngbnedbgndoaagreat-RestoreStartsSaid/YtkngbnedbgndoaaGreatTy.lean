import Derived.Test.YtkngbnedbgndoaaGreatSlV
set_option linter.unusedVariables false
namespace Go.Proofs.YtkngbnedbgndoaaGreat
open Go.SL
structure api_Breaker where
  Kind : Int
  A : Int
  B : Int
  deriving Inhabited
def api_Breaker.ps (x : api_Breaker) : List Pd := [.v (.int .i64 x.Kind), .v (.int .i64 x.A), .v (.int .i64 x.B)]
structure api_Source where
  Rating : Int
  Least : Int
  Start : Int
  deriving Inhabited
def api_Source.ps (x : api_Source) : List Pd := [.v (.int .i64 x.Rating), .v (.int .i64 x.Least), .v (.int .i64 x.Start)]
structure api_Consumer where
  Load : Int
  Least : Int
  Preference : Int
  Thruster : Int
  Needs : List Int
  deriving Inhabited
def api_Consumer.ps (x : api_Consumer) : List Pd := [.v (.int .i64 x.Load), .v (.int .i64 x.Least), .v (.int .i64 x.Preference), .v (.int .i64 x.Thruster), .s (x.Needs.map pI)]
structure api_Board where
  Buses : Int
  Breakers : List api_Breaker
  Sources : List api_Source
  Consumers : List api_Consumer
  Phase : Int
  Frequency : Int
  deriving Inhabited
def api_Board.ps (x : api_Board) : List Pd := [.v (.int .i64 x.Buses), .s (x.Breakers.map api_Breaker.ps), .s (x.Sources.map api_Source.ps), .s (x.Consumers.map api_Consumer.ps), .v (.int .i64 x.Phase), .v (.int .i64 x.Frequency)]
structure api_Running where
  State : Int
  Since : Int
  Frequency : Int
  Phase : Int
  deriving Inhabited
def api_Running.ps (x : api_Running) : List Pd := [.v (.int .i64 x.State), .v (.int .i64 x.Since), .v (.int .i64 x.Frequency), .v (.int .i64 x.Phase)]
structure api_Part where
  Kind : Int
  Number : Int
  deriving Inhabited
def api_Part.ps (x : api_Part) : List Pd := [.v (.int .i64 x.Kind), .v (.int .i64 x.Number)]
structure api_Power where
  Closed : List Bool
  Sources : List api_Running
  Limits : List Int
  Broken : List api_Part
  deriving Inhabited
def api_Power.ps (x : api_Power) : List Pd := [.s (x.Closed.map pB), .s (x.Sources.map api_Running.ps), .s (x.Limits.map pI), .s (x.Broken.map api_Part.ps)]
structure api_Act where
  Kind : Int
  Unit : Int
  Value : Int
  deriving Inhabited
def api_Act.ps (x : api_Act) : List Pd := [.v (.int .i64 x.Kind), .v (.int .i64 x.Unit), .v (.int .i64 x.Value)]
structure restore_worker where
  board : api_Board
  power : api_Power
  time : Int
  deriving Inhabited
def restore_worker.ps (x : restore_worker) : List Pd := [.v (.int .i64 x.board.Buses), .s (x.board.Breakers.map api_Breaker.ps), .s (x.board.Sources.map api_Source.ps), .s (x.board.Consumers.map api_Consumer.ps), .v (.int .i64 x.board.Phase), .v (.int .i64 x.board.Frequency), .s (x.power.Closed.map pB), .s (x.power.Sources.map api_Running.ps), .s (x.power.Limits.map pI), .s (x.power.Broken.map api_Part.ps), .v (.int .i64 x.time)]
structure api_Island where
  Buses : List Int
  Sources : List Int
  Consumers : List Int
  deriving Inhabited
def api_Island.ps (x : api_Island) : List Pd := [.s (x.Buses.map pI), .s (x.Sources.map pI), .s (x.Consumers.map pI)]
structure shed_relief where
  board : api_Board
  power : api_Power
  acts : List api_Act
  deriving Inhabited
def shed_relief.ps (x : shed_relief) : List Pd := [.v (.int .i64 x.board.Buses), .s (x.board.Breakers.map api_Breaker.ps), .s (x.board.Sources.map api_Source.ps), .s (x.board.Consumers.map api_Consumer.ps), .v (.int .i64 x.board.Phase), .v (.int .i64 x.board.Frequency), .s (x.power.Closed.map pB), .s (x.power.Sources.map api_Running.ps), .s (x.power.Limits.map pI), .s (x.power.Broken.map api_Part.ps), .s (x.acts.map api_Act.ps)]
structure restore_planner where
  board : api_Board
  power : api_Power
  goal : List Bool
  acts : List api_Act
  deriving Inhabited
def restore_planner.ps (x : restore_planner) : List Pd := [.v (.int .i64 x.board.Buses), .s (x.board.Breakers.map api_Breaker.ps), .s (x.board.Sources.map api_Source.ps), .s (x.board.Consumers.map api_Consumer.ps), .v (.int .i64 x.board.Phase), .v (.int .i64 x.board.Frequency), .s (x.power.Closed.map pB), .s (x.power.Sources.map api_Running.ps), .s (x.power.Limits.map pI), .s (x.power.Broken.map api_Part.ps), .s (x.goal.map pB), .s (x.acts.map api_Act.ps)]
end Go.Proofs.YtkngbnedbgndoaaGreat
