import Derived.Test.YthgnbpdjncbkfaaGreatSlV
set_option linter.unusedVariables false
namespace Go.Proofs.YthgnbpdjncbkfaaGreat
open Go.SL
structure dynposmake_Src where
 L : List Int
 At : Int
 deriving Inhabited
def q90 (x : dynposmake_Src) : List Pd := [.s (x.L.map pI), .v (.int .i64 x.At)]
structure api_Breaker where
 Kind : Int
 A : Int
 B : Int
 deriving Inhabited
def q147 (x : api_Breaker) : List Pd := [.v (.int .i64 x.Kind), .v (.int .i64 x.A), .v (.int .i64 x.B)]
structure api_Source where
 Rating : Int
 Least : Int
 Start : Int
 deriving Inhabited
def q139 (x : api_Source) : List Pd := [.v (.int .i64 x.Rating), .v (.int .i64 x.Least), .v (.int .i64 x.Start)]
structure api_Consumer where
 Load : Int
 Least : Int
 Preference : Int
 Thruster : Int
 Needs : List Int
 deriving Inhabited
def q65 (x : api_Consumer) : List Pd := [.v (.int .i64 x.Load), .v (.int .i64 x.Least), .v (.int .i64 x.Preference), .v (.int .i64 x.Thruster), .s (x.Needs.map pI)]
structure api_Board where
 Buses : Int
 Breakers : List api_Breaker
 Sources : List api_Source
 Consumers : List api_Consumer
 Phase : Int
 Frequency : Int
 deriving Inhabited
def q29 (x : api_Board) : List Pd := [.v (.int .i64 x.Buses), .s (x.Breakers.map q147), .s (x.Sources.map q139), .s (x.Consumers.map q65), .v (.int .i64 x.Phase), .v (.int .i64 x.Frequency)]
structure api_Table where
 Start : Int
 Stop : Int
 Delay : Int
 deriving Inhabited
def q31 (x : api_Table) : List Pd := [.v (.int .i64 x.Start), .v (.int .i64 x.Stop), .v (.int .i64 x.Delay)]
structure api_Running where
 State : Int
 Since : Int
 Frequency : Int
 Phase : Int
 deriving Inhabited
def q120 (x : api_Running) : List Pd := [.v (.int .i64 x.State), .v (.int .i64 x.Since), .v (.int .i64 x.Frequency), .v (.int .i64 x.Phase)]
structure api_Part where
 Kind : Int
 Number : Int
 deriving Inhabited
def q86 (x : api_Part) : List Pd := [.v (.int .i64 x.Kind), .v (.int .i64 x.Number)]
structure api_Power where
 Closed : List Bool
 Sources : List api_Running
 Limits : List Int
 Broken : List api_Part
 deriving Inhabited
def q36 (x : api_Power) : List Pd := [.s (x.Closed.map pB), .s (x.Sources.map q120), .s (x.Limits.map pI), .s (x.Broken.map q86)]
structure api_Roster where
 High : Int
 Low : Int
 deriving Inhabited
def q130 (x : api_Roster) : List Pd := [.v (.int .i64 x.High), .v (.int .i64 x.Low)]
structure api_Act where
 Kind : Int
 Unit : Int
 Value : Int
 deriving Inhabited
def q49 (x : api_Act) : List Pd := [.v (.int .i64 x.Kind), .v (.int .i64 x.Unit), .v (.int .i64 x.Value)]
structure api_Event where
 Time : Int
 Act : api_Act
 Err : Int
 deriving Inhabited
def q51 (x : api_Event) : List Pd := [.v (.int .i64 x.Time), .v (.int .i64 x.Act.Kind), .v (.int .i64 x.Act.Unit), .v (.int .i64 x.Act.Value), .v (.int .i64 x.Err)]
structure api_Plant where
 Time : Int
 Power : api_Power
 Rosters : List api_Roster
 Events : List api_Event
 deriving Inhabited
def q40 (x : api_Plant) : List Pd := [.v (.int .i64 x.Time), .s (x.Power.Closed.map pB), .s (x.Power.Sources.map q120), .s (x.Power.Limits.map pI), .s (x.Power.Broken.map q86), .s (x.Rosters.map q130), .s (x.Events.map q51)]
structure api_Island where
 Buses : List Int
 Sources : List Int
 Consumers : List Int
 deriving Inhabited
def q84 (x : api_Island) : List Pd := [.s (x.Buses.map pI), .s (x.Sources.map pI), .s (x.Consumers.map pI)]
structure api_Arc where
 From : Int
 To : Int
 deriving Inhabited
def q159 (x : api_Arc) : List Pd := [.v (.int .i64 x.From), .v (.int .i64 x.To)]
structure api_Thruster where
 Kind : Int
 Station : Int
 Max : Int
 Rate : Int
 Cost : Int
 Forbidden : List api_Arc
 deriving Inhabited
def q63 (x : api_Thruster) : List Pd := [.v (.int .i64 x.Kind), .v (.int .i64 x.Station), .v (.int .i64 x.Max), .v (.int .i64 x.Rate), .v (.int .i64 x.Cost), .s (x.Forbidden.map q159)]
structure api_Ship where
 Bow : Int
 Stern : Int
 Thrusters : List api_Thruster
 deriving Inhabited
def q57 (x : api_Ship) : List Pd := [.v (.int .i64 x.Bow), .v (.int .i64 x.Stern), .s (x.Thrusters.map q63)]
structure api_Thrust where
 X : Int
 Y : Int
 deriving Inhabited
def q70 (x : api_Thrust) : List Pd := [.v (.int .i64 x.X), .v (.int .i64 x.Y)]
structure plant_runner where
 Plant : api_Plant
 board : api_Board
 events : List api_Event
 states : List api_Power
 deriving Inhabited
def q100 (x : plant_runner) : List Pd := [.v (.int .i64 x.Plant.Time), .s (x.Plant.Power.Closed.map pB), .s (x.Plant.Power.Sources.map q120), .s (x.Plant.Power.Limits.map pI), .s (x.Plant.Power.Broken.map q86), .s (x.Plant.Rosters.map q130), .s (x.Plant.Events.map q51), .v (.int .i64 x.board.Buses), .s (x.board.Breakers.map q147), .s (x.board.Sources.map q139), .s (x.board.Consumers.map q65), .v (.int .i64 x.board.Phase), .v (.int .i64 x.board.Frequency), .s (x.events.map q51), .s (x.states.map q36)]
structure restore_worker where
 board : api_Board
 power : api_Power
 time : Int
 deriving Inhabited
def q186 (x : restore_worker) : List Pd := [.v (.int .i64 x.board.Buses), .s (x.board.Breakers.map q147), .s (x.board.Sources.map q139), .s (x.board.Consumers.map q65), .v (.int .i64 x.board.Phase), .v (.int .i64 x.board.Frequency), .s (x.power.Closed.map pB), .s (x.power.Sources.map q120), .s (x.power.Limits.map pI), .s (x.power.Broken.map q86), .v (.int .i64 x.time)]
structure shed_relief where
 board : api_Board
 power : api_Power
 acts : List api_Act
 deriving Inhabited
def q235 (x : shed_relief) : List Pd := [.v (.int .i64 x.board.Buses), .s (x.board.Breakers.map q147), .s (x.board.Sources.map q139), .s (x.board.Consumers.map q65), .v (.int .i64 x.board.Phase), .v (.int .i64 x.board.Frequency), .s (x.power.Closed.map pB), .s (x.power.Sources.map q120), .s (x.power.Limits.map pI), .s (x.power.Broken.map q86), .s (x.acts.map q49)]
def d90 (x : dynposmake_Src) : List D := [DS pI x.L, I x.At]
def d147 (x : api_Breaker) : List D := [I x.Kind, I x.A, I x.B]
def d139 (x : api_Source) : List D := [I x.Rating, I x.Least, I x.Start]
def d65 (x : api_Consumer) : List D := [I x.Load, I x.Least, I x.Preference, I x.Thruster, DS pI x.Needs]
def d29 (x : api_Board) : List D := [I x.Buses, DS q147 x.Breakers, DS q139 x.Sources, DS q65 x.Consumers, I x.Phase, I x.Frequency]
def d31 (x : api_Table) : List D := [I x.Start, I x.Stop, I x.Delay]
def d120 (x : api_Running) : List D := [I x.State, I x.Since, I x.Frequency, I x.Phase]
def d86 (x : api_Part) : List D := [I x.Kind, I x.Number]
def d36 (x : api_Power) : List D := [DS pB x.Closed, DS q120 x.Sources, DS pI x.Limits, DS q86 x.Broken]
def d130 (x : api_Roster) : List D := [I x.High, I x.Low]
def d49 (x : api_Act) : List D := [I x.Kind, I x.Unit, I x.Value]
def d51 (x : api_Event) : List D := [I x.Time, I x.Act.Kind, I x.Act.Unit, I x.Act.Value, I x.Err]
def d40 (x : api_Plant) : List D := [I x.Time, DS pB x.Power.Closed, DS q120 x.Power.Sources, DS pI x.Power.Limits, DS q86 x.Power.Broken, DS q130 x.Rosters, DS q51 x.Events]
def d84 (x : api_Island) : List D := [DS pI x.Buses, DS pI x.Sources, DS pI x.Consumers]
def d159 (x : api_Arc) : List D := [I x.From, I x.To]
def d63 (x : api_Thruster) : List D := [I x.Kind, I x.Station, I x.Max, I x.Rate, I x.Cost, DS q159 x.Forbidden]
def d57 (x : api_Ship) : List D := [I x.Bow, I x.Stern, DS q63 x.Thrusters]
def d70 (x : api_Thrust) : List D := [I x.X, I x.Y]
def d100 (x : plant_runner) : List D := [I x.Plant.Time, DS pB x.Plant.Power.Closed, DS q120 x.Plant.Power.Sources, DS pI x.Plant.Power.Limits, DS q86 x.Plant.Power.Broken, DS q130 x.Plant.Rosters, DS q51 x.Plant.Events, I x.board.Buses, DS q147 x.board.Breakers, DS q139 x.board.Sources, DS q65 x.board.Consumers, I x.board.Phase, I x.board.Frequency, DS q51 x.events, DS q36 x.states]
def d186 (x : restore_worker) : List D := [I x.board.Buses, DS q147 x.board.Breakers, DS q139 x.board.Sources, DS q65 x.board.Consumers, I x.board.Phase, I x.board.Frequency, DS pB x.power.Closed, DS q120 x.power.Sources, DS pI x.power.Limits, DS q86 x.power.Broken, I x.time]
def d235 (x : shed_relief) : List D := [I x.board.Buses, DS q147 x.board.Breakers, DS q139 x.board.Sources, DS q65 x.board.Consumers, I x.board.Phase, I x.board.Frequency, DS pB x.power.Closed, DS q120 x.power.Sources, DS pI x.power.Limits, DS q86 x.power.Broken, DS q49 x.acts]
end Go.Proofs.YthgnbpdjncbkfaaGreat
