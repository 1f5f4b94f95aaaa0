/- The plain functions in use. Conditions: none. -/
import Derived.Test.YtoeineoiofjfdaaQ11S
